/- Whatever game and budget come in: EngineAsks returns true, and all reads as it did. -/
import Derived.Test.YtacejanlmhbddaaGreatQfO
import Derived.Test.YtacejanlmhbddaaGreatQfT
set_option maxRecDepth 100000
set_option maxHeartbeats 1000000
set_option linter.all false
namespace Go.Proofs.YtacejanlmhbddaaGreat
open Go Go.VV Go.Proofs Go.ChangeShapes Go.WideShapes Go.ChangeAt Go.RowKit Go.Proofs.Tryz
theorem engineAsks_lifted (os : Os) (started : os.Started) (H : Type) (enc : AJ × AH → H) :
  ReturnsInHanded {} Tryz.checked os 5 .any (Rows.engineAsksSpec.pre6 enc prog Tryz.f5 Rows.engineAsksRow.domain false) (Rows.engineAsksSpec.post enc prog Tryz.f5 false true false false) := by
 refine returnsInHanded_of_change (C := Tryz.checked) own started y_f func5
  (ChangeSpec.witness6 (enc := enc) (C := Tryz.checked) false ⟨#[], #[.agg #[.int .u8 0, .slice none 0 0, .slice none 0 0], .int .u8 0], []⟩ 8 y_f y_f y_f y_f) ?_
 intro W base args ds gs before hval0 hW hcnd _
 have hval : ∀ (j : Nat) t v, Tryz.f5.params[j]? = some t → args[j]? = some v → Value.okWide prog W .any base t v := hval0
 have hW' := hW
 obtain ⟨p, q, hA0, hV, rfl, hfz, hnd⟩ := hW
 have hA : DataW.TrodAll enc prog W 0 (fun _ => true) true Tryz.f5.params.toList args.toList ds p := hA0
 rw [Tryz.params5] at hA hval
 obtain ⟨args⟩ := args
 obtain ⟨rfl, rfl⟩ := trodVars_none hV
 simp only [] at hA
 have hAk := hA
 obtain ⟨v0, vs0, d0, ds0, p0, q0, rfl, rfl, rfl, h0, r0⟩ := trodAll_cons hA
 obtain ⟨v1, vs1, d1, ds1, p1, q1, rfl, rfl, rfl, h1, r1⟩ := trodAll_cons r0
 obtain ⟨rfl, rfl, rfl⟩ := trodAll_nil r1
 obtain ⟨x0, rfl, w0⟩ := vG (ks := [.int .u8, .ints .u8, .rows [.int .u64, .int .u8]]) (c := cGq) (p := Gq.Ok W) Tryz.underlying25 y_f aDe (hval 0 25 v0 rfl rfl) h0
 obtain ⟨x1, rfl, rfl, rfl, w1⟩ := open_int Tryz.underlying5 (hval 1 5 v1 rfl rfl) h1
 refine Calls.mono (show aB prog 5 _ W [] _ from aRm x0 x1 (aBr w1) W w0) fun e W' ⟨v, G, he, hst, _, hv⟩ => ?_
 subst hv he
 have bel := zI hst
 exact ⟨_, rfl, _, _, _, [], _, [], hW', trodAll_mk1 (shut_bool Tryz.underlying4 _), lW laidOut bel y_f hAk, rfl, bel.frame _, fun h => y_eO⟩
set_option maxHeartbeats 8000000 in
theorem engineAsks_holds : Rows.EngineAsksSaid :=
 OpenClaim.holds_of_wide 5 Tryz.f5 rfl rfl rfl rfl rfl rfl rfl ⟨rfl, rfl, rfl, rfl, rfl⟩ rfl rfl rfl rfl rfl y_f func5 y_ef
  (ct y_f) y_d9
  (fun os started H enc _ => engineAsks_lifted os started H enc)
end Go.Proofs.YtacejanlmhbddaaGreat
