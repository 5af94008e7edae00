/- The rows of layer 15, third part: each law returns true, whatever comes in, and what came in reads as it did. -/
import Derived.Test.YtjceoaomkbabmaaMcE
import Derived.Test.YtjceoaomkbabmaaMcF
import Derived.Test.YtjceoaomkbabmaaMcM
import Derived.Test.YtjceoaomkbabmaaMcT
import Derived.Test.YtjceoaomkbabmaaRows
namespace Go.Proofs.Ytjceoaomkbabmaa
open Go Go.VV Go.Proofs Go.ChangeShapes Go.WideShapes Go.ChangeAt Go.RowKit
set_option linter.unusedSimpArgs false
set_option linter.unusedVariables false
set_option maxRecDepth 100000
theorem own : ownKnob Try.prog.godebug = none := by kernel_rfl
theorem laidOut : laidOutB Try.prog = true := by kernel_rfl

theorem ppuBack_lifted (os : Os) (started : os.Started) (H : Type) (enc : TypeId × Value → H) :
    ReturnsInHanded {} Try.checked os 7 .any (Rows.ppuBackSpec.pre6 enc Try.prog Try.f7 Rows.ppuBackRow.domain false) (Rows.ppuBackSpec.post enc Try.prog Try.f7 false true false false) := by
  refine returnsInHanded_of_change (C := Try.checked) own started (by kernel_rfl) Try.func7
    (ChangeSpec.witness6 (enc := enc) (C := Try.checked) false ⟨#[], #[.slice none 0 0, .slice none 0 0], []⟩ 8 (by kernel_rfl) (by kernel_rfl) (by kernel_rfl) (by kernel_rfl)) ?_
  intro W base args ds gs before hval0 hW hcnd _
  have hval : ∀ (j : Nat) t v, Try.f7.params[j]? = some t → args[j]? = some v → Value.okWide Try.prog W .any base t v := hval0
  have hW' := hW
  obtain ⟨p, q, hA0, hV, rfl, hfz, hnd⟩ := hW
  have hA : DataW.TrodAll enc Try.prog W 0 (fun _ => true) true Try.f7.params.toList args.toList ds p := hA0
  rw [Try.params7] at hA hval
  obtain ⟨args⟩ := args
  obtain ⟨rfl, rfl⟩ := trodVars_none hV
  simp only [] at hA
  have hAk := hA
  obtain ⟨v0, vs0, d0, ds0, p0, q0, rfl, rfl, rfl, h0, r0⟩ := trodAll_cons hA
  obtain ⟨v1, vs1, d1, ds1, p1, q1, rfl, rfl, rfl, h1, r1⟩ := trodAll_cons r0
  obtain ⟨rfl, rfl, rfl⟩ := trodAll_nil r1
  obtain ⟨a0, c0, l0, rfl, hc0, hm0, hw0, hN0⟩ := arg_nrows (ks := [.int .i64, .int .i64, .int .u16, .int .u8, .ints .u8]) (c := cO) (p := OpL.Ok W) 5 Try.underlying35 (by kernel_rfl) (by kernel_rfl) rfl cO_of (hval 0 35 v0 rfl rfl) h0
  obtain ⟨a1, c1, l1, rfl, hc1, hm1, hw1, hN1⟩ := arg_nrows (ks := [.int .i64, .int .i64, .int .u16, .int .u8, .ints .u8]) (c := cO) (p := OpL.Ok W) 5 Try.underlying35 (by kernel_rfl) (by kernel_rfl) rfl cO_of (hval 1 35 v1 rfl rfl) h1
  refine Calls.mono (show Does Try.prog 7 _ W [] _ from lawBack_fn W a0 c0 l0 hw0 hm0 hN0 a1 c1 l1 hw1 hm1 hN1) fun e W' ⟨v, G, he, hst, _, hv⟩ => ?_
  subst hv he
  have bel := below_of hst
  exact ⟨_, rfl, _, _, _, [], _, [], hW', trodAll_mk1 (shut_bool Try.underlying4 _), trodAll_below laidOut bel (by kernel_rfl) hAk, rfl, bel.frame _, fun h => by cases h⟩

/-- Whatever calls come in: PpuBack returns true, and all reads as it did. -/
theorem ppuBack_holds : Rows.PpuBackSaid :=
  OpenClaim.holds_of_wide 7 Try.f7 rfl rfl rfl rfl rfl rfl rfl ⟨rfl, rfl, rfl, rfl, rfl⟩ rfl rfl rfl rfl rfl (by kernel_rfl) Try.func7 (by kernel_rfl)
    (of_decide_eq_true (by kernel_rfl)) (by unfold Func.isWrapper; first | (rw [if_pos (by decide +kernel)]; kernel_rfl) | (rw [if_neg (by decide +kernel)]; exact ⟨rfl, rfl⟩))
    (fun os started H enc _ => ppuBack_lifted os started H enc)

theorem ppuBytes_lifted (os : Os) (started : os.Started) (H : Type) (enc : TypeId × Value → H) :
    ReturnsInHanded {} Try.checked os 8 .any (Rows.ppuBytesSpec.pre6 enc Try.prog Try.f8 Rows.ppuBytesRow.domain false) (Rows.ppuBytesSpec.post enc Try.prog Try.f8 false true false false) := by
  refine returnsInHanded_of_change (C := Try.checked) own started (by kernel_rfl) Try.func8
    (ChangeSpec.witness6 (enc := enc) (C := Try.checked) false ⟨#[], #[.slice none 0 0, .int .u16 0, .int .u8 0, .int .i64 0], []⟩ 8 (by kernel_rfl) (by kernel_rfl) (by kernel_rfl) (by kernel_rfl)) ?_
  intro W base args ds gs before hval0 hW hcnd _
  have hval : ∀ (j : Nat) t v, Try.f8.params[j]? = some t → args[j]? = some v → Value.okWide Try.prog W .any base t v := hval0
  have hW' := hW
  obtain ⟨p, q, hA0, hV, rfl, hfz, hnd⟩ := hW
  have hA : DataW.TrodAll enc Try.prog W 0 (fun _ => true) true Try.f8.params.toList args.toList ds p := hA0
  rw [Try.params8] at hA hval
  obtain ⟨args⟩ := args
  obtain ⟨rfl, rfl⟩ := trodVars_none hV
  simp only [] at hA
  have hAk := hA
  obtain ⟨v0, vs0, d0, ds0, p0, q0, rfl, rfl, rfl, h0, r0⟩ := trodAll_cons hA
  obtain ⟨v1, vs1, d1, ds1, p1, q1, rfl, rfl, rfl, h1, r1⟩ := trodAll_cons r0
  obtain ⟨v2, vs2, d2, ds2, p2, q2, rfl, rfl, rfl, h2, r2⟩ := trodAll_cons r1
  obtain ⟨v3, vs3, d3, ds3, p3, q3, rfl, rfl, rfl, h3, r3⟩ := trodAll_cons r2
  obtain ⟨rfl, rfl, rfl⟩ := trodAll_nil r3
  obtain ⟨a0, c0, l0, rfl, hc0, hm0, hw0, hN0⟩ := arg_nrows (ks := [.int .i64, .int .i64, .int .u16, .int .u8, .ints .u8]) (c := cO) (p := OpL.Ok W) 5 Try.underlying35 (by kernel_rfl) (by kernel_rfl) rfl cO_of (hval 0 35 v0 rfl rfl) h0
  obtain ⟨x1, rfl, rfl, rfl, w1⟩ := open_int Try.underlying22 (hval 1 22 v1 rfl rfl) h1
  obtain ⟨x2, rfl, rfl, rfl, w2⟩ := open_int Try.underlying5 (hval 2 5 v2 rfl rfl) h2
  obtain ⟨x3, rfl, rfl, rfl, w3⟩ := open_int Try.underlying3 (hval 3 3 v3 rfl rfl) h3
  refine Calls.mono (show Does Try.prog 8 _ W [] _ from lawBytes_fn W a0 c0 l0 hw0 hm0 hN0 x1 x2 x3 (wf_u16 w1) (wf_u8 w2) (wf_i64 w3)) fun e W' ⟨v, G, he, hst, _, hv⟩ => ?_
  subst hv he
  have bel := below_of hst
  exact ⟨_, rfl, _, _, _, [], _, [], hW', trodAll_mk1 (shut_bool Try.underlying4 _), trodAll_below laidOut bel (by kernel_rfl) hAk, rfl, bel.frame _, fun h => by cases h⟩

/-- Whatever calls, place, byte and cut come in: PpuBytes returns true, and all reads as it did. -/
theorem ppuBytes_holds : Rows.PpuBytesSaid :=
  OpenClaim.holds_of_wide 8 Try.f8 rfl rfl rfl rfl rfl rfl rfl ⟨rfl, rfl, rfl, rfl, rfl⟩ rfl rfl rfl rfl rfl (by kernel_rfl) Try.func8 (by kernel_rfl)
    (of_decide_eq_true (by kernel_rfl)) (by unfold Func.isWrapper; first | (rw [if_pos (by decide +kernel)]; kernel_rfl) | (rw [if_neg (by decide +kernel)]; exact ⟨rfl, rfl⟩))
    (fun os started H enc _ => ppuBytes_lifted os started H enc)

theorem ppuOff_lifted (os : Os) (started : os.Started) (H : Type) (enc : TypeId × Value → H) :
    ReturnsInHanded {} Try.checked os 9 .any (Rows.ppuOffSpec.pre6 enc Try.prog Try.f9 Rows.ppuOffRow.domain false) (Rows.ppuOffSpec.post enc Try.prog Try.f9 false true false false) := by
  refine returnsInHanded_of_change (C := Try.checked) own started (by kernel_rfl) Try.func9
    (ChangeSpec.witness6 (enc := enc) (C := Try.checked) false ⟨#[], #[.slice none 0 0, .int .u8 0, .int .u8 0, .int .u8 0], []⟩ 8 (by kernel_rfl) (by kernel_rfl) (by kernel_rfl) (by kernel_rfl)) ?_
  intro W base args ds gs before hval0 hW hcnd _
  have hval : ∀ (j : Nat) t v, Try.f9.params[j]? = some t → args[j]? = some v → Value.okWide Try.prog W .any base t v := hval0
  have hW' := hW
  obtain ⟨p, q, hA0, hV, rfl, hfz, hnd⟩ := hW
  have hA : DataW.TrodAll enc Try.prog W 0 (fun _ => true) true Try.f9.params.toList args.toList ds p := hA0
  rw [Try.params9] at hA hval
  obtain ⟨args⟩ := args
  obtain ⟨rfl, rfl⟩ := trodVars_none hV
  simp only [] at hA
  have hAk := hA
  obtain ⟨v0, vs0, d0, ds0, p0, q0, rfl, rfl, rfl, h0, r0⟩ := trodAll_cons hA
  obtain ⟨v1, vs1, d1, ds1, p1, q1, rfl, rfl, rfl, h1, r1⟩ := trodAll_cons r0
  obtain ⟨v2, vs2, d2, ds2, p2, q2, rfl, rfl, rfl, h2, r2⟩ := trodAll_cons r1
  obtain ⟨v3, vs3, d3, ds3, p3, q3, rfl, rfl, rfl, h3, r3⟩ := trodAll_cons r2
  obtain ⟨rfl, rfl, rfl⟩ := trodAll_nil r3
  obtain ⟨a0, c0, l0, rfl, hc0, hm0, hw0, hN0⟩ := arg_nrows (ks := [.int .i64, .int .i64, .int .u16, .int .u8, .ints .u8]) (c := cO) (p := OpL.Ok W) 5 Try.underlying35 (by kernel_rfl) (by kernel_rfl) rfl cO_of (hval 0 35 v0 rfl rfl) h0
  obtain ⟨x1, rfl, rfl, rfl, w1⟩ := open_int Try.underlying5 (hval 1 5 v1 rfl rfl) h1
  obtain ⟨x2, rfl, rfl, rfl, w2⟩ := open_int Try.underlying5 (hval 2 5 v2 rfl rfl) h2
  obtain ⟨x3, rfl, rfl, rfl, w3⟩ := open_int Try.underlying5 (hval 3 5 v3 rfl rfl) h3
  refine Calls.mono (show Does Try.prog 9 _ W [] _ from lawOff_fn W a0 c0 l0 hw0 hm0 hN0 x1 x2 x3 (wf_u8 w1) (wf_u8 w2) (wf_u8 w3)) fun e W' ⟨v, G, he, hst, _, hv⟩ => ?_
  subst hv he
  have bel := below_of hst
  exact ⟨_, rfl, _, _, _, [], _, [], hW', trodAll_mk1 (shut_bool Try.underlying4 _), trodAll_below laidOut bel (by kernel_rfl) hAk, rfl, bel.frame _, fun h => by cases h⟩

/-- Whatever calls, control, cycles and line come in: PpuOff returns true, and all reads as it did. -/
theorem ppuOff_holds : Rows.PpuOffSaid :=
  OpenClaim.holds_of_wide 9 Try.f9 rfl rfl rfl rfl rfl rfl rfl ⟨rfl, rfl, rfl, rfl, rfl⟩ rfl rfl rfl rfl rfl (by kernel_rfl) Try.func9 (by kernel_rfl)
    (of_decide_eq_true (by kernel_rfl)) (by unfold Func.isWrapper; first | (rw [if_pos (by decide +kernel)]; kernel_rfl) | (rw [if_neg (by decide +kernel)]; exact ⟨rfl, rfl⟩))
    (fun os started H enc _ => ppuOff_lifted os started H enc)

end Go.Proofs.Ytjceoaomkbabmaa
