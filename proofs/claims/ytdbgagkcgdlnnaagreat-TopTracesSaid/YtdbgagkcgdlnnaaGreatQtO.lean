/- Whatever program and steps come in: TopTraces returns true, and all reads as it did. -/
import Derived.Test.YtdbgagkcgdlnnaaGreatRows
import Derived.Test.YtdbgagkcgdlnnaaGreatQtN
set_option maxRecDepth 100000
set_option maxHeartbeats 1000000
set_option linter.all false
namespace Go.Proofs.YtdbgagkcgdlnnaaGreat
open Go Go.VV Go.Proofs Go.ChangeShapes Go.WideShapes Go.ChangeAt Go.RowKit Go.Proofs.Tryz
def own : ownKnob prog.godebug = none := by kernel_rfl
def laidOut : laidOutB prog = true := by kernel_rfl
def and_i {a b : Bool} (h2 : b = true) (h1 : a = true) : (a && b) = true := by rw [h1, h2]; rfl
theorem topTraces_lifted (os : Os) (started : os.Started) (H : Type) (enc : AJ × AH → H) :
  ReturnsInHanded {} Tryz.checked os 3 .any (Rows.topTracesSpec.pre6 enc prog Tryz.f3 Rows.topTracesRow.domain false) (Rows.topTracesSpec.post enc prog Tryz.f3 false true false false) := by
 refine returnsInHanded_of_change (C := Tryz.checked) own started y_i func3
  (ChangeSpec.witness6 (enc := enc) (C := Tryz.checked) false ⟨#[], #[.slice none 0 0, .int .u8 0], []⟩ 8 y_i y_i y_i y_i) ?_
 intro W base args ds gs before hval0 hW hcnd _
 have hval : ∀ (j : Nat) t v, Tryz.f3.params[j]? = some t → args[j]? = some v → Value.okWide prog W .any base t v := hval0
 have hW' := hW
 obtain ⟨p, q, hA0, hV, rfl, hfz, hnd⟩ := hW
 have hA : DataW.TrodAll enc prog W 0 (fun _ => true) true Tryz.f3.params.toList args.toList ds p := hA0
 rw [Tryz.params3] at hA hval
 obtain ⟨args⟩ := args
 obtain ⟨rfl, rfl⟩ := trodVars_none hV
 simp only [] at hA
 have hAk := hA
 obtain ⟨v0, vs0, d0, ds0, p0, q0, rfl, rfl, rfl, h0, r0⟩ := trodAll_cons hA
 obtain ⟨v1, vs1, d1, ds1, p1, q1, rfl, rfl, rfl, h1, r1⟩ := trodAll_cons r0
 obtain ⟨rfl, rfl, rfl⟩ := trodAll_nil r1
 obtain ⟨a0, c0, l0, rfl, hc0, hm0, hw0, hN0⟩ := aLo Tryz.underlying22 Tryz.underlying5 y_i (hval 0 22 v0 rfl rfl) h0
 obtain ⟨x1, rfl, rfl, rfl, w1⟩ := open_int Tryz.underlying5 (hval 1 5 v1 rfl rfl) h1
 refine Calls.mono (show aC prog 3 _ W [] _ from aKw a0 c0 l0 (aPi hw0) hm0 x1 (aNw w1) W hN0) fun e W' ⟨v, G, he, hst, _, hv⟩ => ?_
 subst hv he
 have bel := aLj hst
 exact ⟨_, rfl, _, _, _, [], _, [], hW', trodAll_mk1 (shut_bool Tryz.underlying4 _), xZ laidOut bel y_i hAk, rfl, bel.frame _, fun h => y_ep⟩
set_option maxHeartbeats 8000000 in
theorem topTraces_holds : Rows.TopTracesSaid :=
 OpenClaim.holds_of_wide 3 Tryz.f3 rfl rfl rfl rfl rfl rfl rfl ⟨rfl, rfl, rfl, rfl, rfl⟩ rfl rfl rfl rfl rfl y_i func3 (by unfold joinedFacts; (iterate 31 refine and_i y_F ?_); decide +kernel)
  (c7 y_i) (by unfold Func.isWrapper; first | (rw [if_pos y_F]; kernel_rfl) | (rw [if_neg y_F]; exact ⟨rfl, rfl⟩))
  (fun os started H enc _ => topTraces_lifted os started H enc)
end Go.Proofs.YtdbgagkcgdlnnaaGreat
