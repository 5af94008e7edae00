/- Whatever game, place, byte and cut come in: MachineLoads returns true, and all reads as it did. -/
import Derived.Test.YtldehodcfajpjaaGreatQcY
import Derived.Test.YtldehodcfajpjaaGreatRows
import Derived.Test.YtldehodcfajpjaaGreatQcZT
set_option linter.unusedSimpArgs false
set_option linter.unusedVariables false
set_option maxRecDepth 100000
set_option maxHeartbeats 4000000
namespace Go.Proofs.YtldehodcfajpjaaGreat
open Go Go.VV Go.Proofs Go.ChangeShapes Go.WideShapes Go.ChangeAt Go.RowKit
theorem machineLoads_lifted (os : Os) (started : os.Started) (H : Type) (enc : TypeId × Value → H) :
  ReturnsInHanded {} Tryz.checked os 5 .any (Rows.machineLoadsSpec.pre6 enc Tryz.prog Tryz.f5 Rows.machineLoadsRow.domain false) (Rows.machineLoadsSpec.post enc Tryz.prog Tryz.f5 false true false false) := by
 refine returnsInHanded_of_change (C := Tryz.checked) own started y_g Tryz.func5
  (ChangeSpec.witness6 (enc := enc) (C := Tryz.checked) false ⟨#[], #[.agg #[.int .u8 0, .int .u8 0, .slice none 0 0, .slice none 0 0], .int .u8 0, .int .u8 0, .int .u8 0], []⟩ 8 y_g y_g y_g y_g) ?_
 intro W base args ds gs before hval0 hW hcnd _
 have hval : ∀ (j : Nat) t v, Tryz.f5.params[j]? = some t → args[j]? = some v → Value.okWide Tryz.prog W .any base t v := hval0
 have hW' := hW
 obtain ⟨p, q, hA0, hV, rfl, hfz, hnd⟩ := hW
 have hA : DataW.TrodAll enc Tryz.prog W 0 (fun _ => true) true Tryz.f5.params.toList args.toList ds p := hA0
 rw [Tryz.params5] at hA hval
 obtain ⟨args⟩ := args
 obtain ⟨rfl, rfl⟩ := trodVars_none hV
 simp only [] at hA
 have hAk := hA
 obtain ⟨v0, vs0, d0, ds0, p0, q0, rfl, rfl, rfl, h0, r0⟩ := trodAll_cons hA
 obtain ⟨v1, vs1, d1, ds1, p1, q1, rfl, rfl, rfl, h1, r1⟩ := trodAll_cons r0
 obtain ⟨v2, vs2, d2, ds2, p2, q2, rfl, rfl, rfl, h2, r2⟩ := trodAll_cons r1
 obtain ⟨v3, vs3, d3, ds3, p3, q3, rfl, rfl, rfl, h3, r3⟩ := trodAll_cons r2
 obtain ⟨rfl, rfl, rfl⟩ := trodAll_nil r3
 obtain ⟨x0, rfl, w0⟩ := arg_nflat (ks := [.int .u8, .int .u8, .ints .u8, .rows [.int .u64, .int .u8]]) (c := cGm) (p := Gm.Ok W) Tryz.underlying25 y_g cGm_of (hval 0 25 v0 rfl rfl) h0
 obtain ⟨x1, rfl, rfl, rfl, w1⟩ := open_int Tryz.underlying5 (hval 1 5 v1 rfl rfl) h1
 obtain ⟨x2, rfl, rfl, rfl, w2⟩ := open_int Tryz.underlying5 (hval 2 5 v2 rfl rfl) h2
 obtain ⟨x3, rfl, rfl, rfl, w3⟩ := open_int Tryz.underlying5 (hval 3 5 v3 rfl rfl) h3
 refine Calls.mono (show Does Tryz.prog 5 _ W [] _ from loads_fn x0 x1 x2 x3 (wf_u8 w1) (wf_u8 w2) (wf_u8 w3) W w0) fun e W' ⟨v, G, he, hst, _, hv⟩ => ?_
 subst hv he
 have bel := below_of hst
 exact ⟨_, rfl, _, _, _, [], _, [], hW', trodAll_mk1 (shut_bool Tryz.underlying4 _), trodAll_below laidOut bel y_g hAk, rfl, bel.frame _, fun h => y_eI⟩
set_option maxHeartbeats 8000000 in
theorem machineLoads_holds : Rows.MachineLoadsSaid :=
 OpenClaim.holds_of_wide 5 Tryz.f5 rfl rfl rfl rfl rfl rfl rfl ⟨rfl, rfl, rfl, rfl, rfl⟩ rfl rfl rfl rfl rfl y_g Tryz.func5 y_d5
  (of_decide_eq_true y_g) y_d0
  (fun os started H enc _ => machineLoads_lifted os started H enc)
end Go.Proofs.YtldehodcfajpjaaGreat
