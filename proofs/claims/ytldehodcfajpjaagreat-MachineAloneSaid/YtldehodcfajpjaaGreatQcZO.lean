/- Whatever game, steps and places come in: MachineAlone returns true, and all reads as it did. -/
import Derived.Test.YtldehodcfajpjaaGreatQcY
import Derived.Test.YtldehodcfajpjaaGreatRows
import Derived.Test.YtldehodcfajpjaaGreatQcZN
set_option linter.unusedSimpArgs false
set_option linter.unusedVariables false
set_option maxRecDepth 100000
set_option maxHeartbeats 4000000
namespace Go.Proofs.YtldehodcfajpjaaGreat
open Go Go.VV Go.Proofs Go.ChangeShapes Go.WideShapes Go.ChangeAt Go.RowKit
theorem machineAlone_lifted (os : Os) (started : os.Started) (H : Type) (enc : TypeId × Value → H) :
  ReturnsInHanded {} Tryz.checked os 4 .any (Rows.machineAloneSpec.pre6 enc Tryz.prog Tryz.f4 Rows.machineAloneRow.domain false) (Rows.machineAloneSpec.post enc Tryz.prog Tryz.f4 false true false false) := by
 refine returnsInHanded_of_change (C := Tryz.checked) own started y_g Tryz.func4
  (ChangeSpec.witness6 (enc := enc) (C := Tryz.checked) false ⟨#[], #[.agg #[.int .u8 0, .int .u8 0, .slice none 0 0, .slice none 0 0], .int .u8 0, .slice none 0 0], []⟩ 8 y_g y_g y_g y_g) ?_
 intro W base args ds gs before hval0 hW hcnd _
 have hval : ∀ (j : Nat) t v, Tryz.f4.params[j]? = some t → args[j]? = some v → Value.okWide Tryz.prog W .any base t v := hval0
 have hW' := hW
 obtain ⟨p, q, hA0, hV, rfl, hfz, hnd⟩ := hW
 have hA : DataW.TrodAll enc Tryz.prog W 0 (fun _ => true) true Tryz.f4.params.toList args.toList ds p := hA0
 rw [Tryz.params4] at hA hval
 obtain ⟨args⟩ := args
 obtain ⟨rfl, rfl⟩ := trodVars_none hV
 simp only [] at hA
 have hAk := hA
 obtain ⟨v0, vs0, d0, ds0, p0, q0, rfl, rfl, rfl, h0, r0⟩ := trodAll_cons hA
 obtain ⟨v1, vs1, d1, ds1, p1, q1, rfl, rfl, rfl, h1, r1⟩ := trodAll_cons r0
 obtain ⟨v2, vs2, d2, ds2, p2, q2, rfl, rfl, rfl, h2, r2⟩ := trodAll_cons r1
 obtain ⟨rfl, rfl, rfl⟩ := trodAll_nil r2
 obtain ⟨x0, rfl, w0⟩ := arg_nflat (ks := [.int .u8, .int .u8, .ints .u8, .rows [.int .u64, .int .u8]]) (c := cGm) (p := Gm.Ok W) Tryz.underlying25 y_g cGm_of (hval 0 25 v0 rfl rfl) h0
 obtain ⟨x1, rfl, rfl, rfl, w1⟩ := open_int Tryz.underlying5 (hval 1 5 v1 rfl rfl) h1
 obtain ⟨a2, c2, l2, rfl, hc2, hm2, hw2, hN2⟩ := arg_ints Tryz.underlying98 Tryz.underlying39 y_g (hval 2 98 v2 rfl rfl) h2
 refine Calls.mono (show Does Tryz.prog 4 _ W [] _ from alone_fn x0 x1 (wf_u8 w1) a2 c2 l2 (fun x hx => wf_u16 (hw2 x hx)) hm2 W w0 hN2) fun e W' ⟨v, G, he, hst, _, hv⟩ => ?_
 subst hv he
 have bel := below_of hst
 exact ⟨_, rfl, _, _, _, [], _, [], hW', trodAll_mk1 (shut_bool Tryz.underlying4 _), trodAll_below laidOut bel y_g hAk, rfl, bel.frame _, fun h => y_eI⟩
set_option maxHeartbeats 8000000 in
theorem machineAlone_holds : Rows.MachineAloneSaid :=
 OpenClaim.holds_of_wide 4 Tryz.f4 rfl rfl rfl rfl rfl rfl rfl ⟨rfl, rfl, rfl, rfl, rfl⟩ rfl rfl rfl rfl rfl y_g Tryz.func4 y_d5
  (of_decide_eq_true y_g) y_d0
  (fun os started H enc _ => machineAlone_lifted os started H enc)
end Go.Proofs.YtldehodcfajpjaaGreat
