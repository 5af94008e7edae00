/- The rows of layer 14 about lines: each law returns true, whatever comes in, and what came in reads as it did. -/
import Derived.Test.YtmdcapafaiemgaaLawsB
import Derived.Test.YtmdcapafaiemgaaRows
import Derived.Test.YtmdcapafaiemgaaVvZ
import Derived.Test.YtmdcapafaiemgaaCalls
namespace Go.Proofs.Ytmdcapafaiemgaa
open Go Go.VV Go.Proofs Go.ChangeShapes Go.WideShapes Go.ChangeAt Go.RowKit
set_option linter.unusedVariables false
theorem own : ownKnob Try.prog.godebug = none := by kernel_rfl
theorem laidOut : laidOutB Try.prog = true := by kernel_rfl

theorem spritesLines_lifted (os : Os) (started : os.Started) (H : Type) (enc : TypeId × Value → H) :
    ReturnsInHanded {} Try.checked os 6 .any (Rows.spritesLinesSpec.pre6 enc Try.prog Try.f6 Rows.spritesLinesRow.domain false) (Rows.spritesLinesSpec.post enc Try.prog Try.f6 false true false false) := by
  refine returnsInHanded_of_change (C := Try.checked) own started (by kernel_rfl) Try.func6
    (ChangeSpec.witness6 (enc := enc) (C := Try.checked) false ⟨#[], #[.slice none 0 0, .slice none 0 0, .agg #[.int .u8 0, .int .u8 0, .int .u8 0, .int .u8 0], .int .u8 0, .slice none 0 0], []⟩ 8 (by kernel_rfl) (by kernel_rfl) (by kernel_rfl) (by kernel_rfl)) ?_
  intro W base args ds gs before hval0 hW hcnd _
  have hval : ∀ (j : Nat) t v, Try.f6.params[j]? = some t → args[j]? = some v → Value.okWide Try.prog W .any base t v := hval0
  have hW' := hW
  obtain ⟨p, q, hA0, hV, rfl, hfz, hnd⟩ := hW
  have hA : DataW.TrodAll enc Try.prog W 0 (fun _ => true) true Try.f6.params.toList args.toList ds p := hA0
  rw [Try.params6] at hA hval
  obtain ⟨args⟩ := args
  obtain ⟨rfl, rfl⟩ := trodVars_none hV
  simp only [] at hA
  have hAk := hA
  obtain ⟨v0, vs0, d0, ds0, p0, q0, rfl, rfl, rfl, h0, r0⟩ := trodAll_cons hA
  obtain ⟨v1, vs1, d1, ds1, p1, q1, rfl, rfl, rfl, h1, r1⟩ := trodAll_cons r0
  obtain ⟨v2, vs2, d2, ds2, p2, q2, rfl, rfl, rfl, h2, r2⟩ := trodAll_cons r1
  obtain ⟨v3, vs3, d3, ds3, p3, q3, rfl, rfl, rfl, h3, r3⟩ := trodAll_cons r2
  obtain ⟨v4, vs4, d4, ds4, p4, q4, rfl, rfl, rfl, h4, r4⟩ := trodAll_cons r3
  obtain ⟨rfl, rfl, rfl⟩ := trodAll_nil r4
  obtain ⟨a0, c0, l0, rfl, hc0, hm0, hw0, hN0⟩ := arg_ints Try.underlying22 Try.underlying5 (by kernel_rfl) (hval 0 22 v0 rfl rfl) h0
  obtain ⟨a1, c1, l1, rfl, hc1, hm1, hw1, hN1⟩ := arg_ints Try.underlying22 Try.underlying5 (by kernel_rfl) (hval 1 22 v1 rfl rfl) h1
  obtain ⟨u20, u21, u22, u23, y0, y1, y2, y3, n2, rfl, rfl, rfl, g20, g21, g22, g23⟩ := Joins.open_agg4 Try.underlying24 (by kernel_rfl) (by kernel_rfl) (hval 2 24 v2 rfl rfl) h2
  obtain ⟨x20, rfl, w20⟩ := arg_int Try.underlying5 g20
  obtain ⟨x21, rfl, w21⟩ := arg_int Try.underlying5 g21
  obtain ⟨x22, rfl, w22⟩ := arg_int Try.underlying5 g22
  obtain ⟨x23, rfl, w23⟩ := arg_int Try.underlying5 g23
  obtain ⟨x3, rfl, rfl, rfl, w3⟩ := open_int Try.underlying5 (hval 3 5 v3 rfl rfl) h3
  obtain ⟨a4, c4, l4, rfl, hc4, hm4, hw4, hN4⟩ := arg_ints Try.underlying22 Try.underlying5 (by kernel_rfl) (hval 4 22 v4 rfl rfl) h4
  refine Calls.mono (show Does Try.prog 6 _ W [] _ from spritesLines_fn W a0 c0 l0 (byts_of hw0) hN0 a1 c1 l1 (byts_of hw1) hc1 hN1 x20 x21 x22 x23 (wf_u8 w20) (wf_u8 w21) (wf_u8 w22) (wf_u8 w23) x3 (wf_u8 w3) a4 c4 l4 (byts_of hw4) hN4) fun e W' ⟨v, G, he, hst, _, hv⟩ => ?_
  subst hv he
  have bel := below_of hst
  exact ⟨_, rfl, _, _, _, [], _, [], hW', trodAll_mk1 (shut_bool Try.underlying4 _), trodAll_below laidOut bel (by kernel_rfl) hAk, rfl, bel.frame _, fun h => by cases h⟩

/-- Whatever bytes, sprites, looks and lines come in, and whatever is below: SpritesLines returns true, and all reads as it did. -/
theorem spritesLines_holds : Rows.SpritesLinesSaid :=
  OpenClaim.holds_of_wide 6 Try.f6 rfl rfl rfl rfl rfl rfl rfl ⟨rfl, rfl, rfl, rfl, rfl⟩ rfl rfl rfl rfl rfl (by kernel_rfl) Try.func6 (by kernel_rfl)
    (of_decide_eq_true (by kernel_rfl)) (by unfold Func.isWrapper; first | (rw [if_pos (by decide +kernel)]; kernel_rfl) | (rw [if_neg (by decide +kernel)]; exact ⟨rfl, rfl⟩))
    (fun os started H enc _ => spritesLines_lifted os started H enc)

theorem spritesNone_lifted (os : Os) (started : os.Started) (H : Type) (enc : TypeId × Value → H) :
    ReturnsInHanded {} Try.checked os 7 .any (Rows.spritesNoneSpec.pre6 enc Try.prog Try.f7 Rows.spritesNoneRow.domain false) (Rows.spritesNoneSpec.post enc Try.prog Try.f7 false true false false) := by
  refine returnsInHanded_of_change (C := Try.checked) own started (by kernel_rfl) Try.func7
    (ChangeSpec.witness6 (enc := enc) (C := Try.checked) false ⟨#[], #[.slice none 0 0, .slice none 0 0, .agg #[.int .u8 0, .int .u8 0, .int .u8 0, .int .u8 0], .int .u8 0, .slice none 0 0], []⟩ 8 (by kernel_rfl) (by kernel_rfl) (by kernel_rfl) (by kernel_rfl)) ?_
  intro W base args ds gs before hval0 hW hcnd _
  have hval : ∀ (j : Nat) t v, Try.f7.params[j]? = some t → args[j]? = some v → Value.okWide Try.prog W .any base t v := hval0
  have hW' := hW
  obtain ⟨p, q, hA0, hV, rfl, hfz, hnd⟩ := hW
  have hA : DataW.TrodAll enc Try.prog W 0 (fun _ => true) true Try.f7.params.toList args.toList ds p := hA0
  rw [Try.params7] at hA hval
  obtain ⟨args⟩ := args
  obtain ⟨rfl, rfl⟩ := trodVars_none hV
  simp only [] at hA
  have hAk := hA
  obtain ⟨v0, vs0, d0, ds0, p0, q0, rfl, rfl, rfl, h0, r0⟩ := trodAll_cons hA
  obtain ⟨v1, vs1, d1, ds1, p1, q1, rfl, rfl, rfl, h1, r1⟩ := trodAll_cons r0
  obtain ⟨v2, vs2, d2, ds2, p2, q2, rfl, rfl, rfl, h2, r2⟩ := trodAll_cons r1
  obtain ⟨v3, vs3, d3, ds3, p3, q3, rfl, rfl, rfl, h3, r3⟩ := trodAll_cons r2
  obtain ⟨v4, vs4, d4, ds4, p4, q4, rfl, rfl, rfl, h4, r4⟩ := trodAll_cons r3
  obtain ⟨rfl, rfl, rfl⟩ := trodAll_nil r4
  obtain ⟨a0, c0, l0, rfl, hc0, hm0, hw0, hN0⟩ := arg_ints Try.underlying22 Try.underlying5 (by kernel_rfl) (hval 0 22 v0 rfl rfl) h0
  obtain ⟨a1, c1, l1, rfl, hc1, hm1, hw1, hN1⟩ := arg_ints Try.underlying22 Try.underlying5 (by kernel_rfl) (hval 1 22 v1 rfl rfl) h1
  obtain ⟨u20, u21, u22, u23, y0, y1, y2, y3, n2, rfl, rfl, rfl, g20, g21, g22, g23⟩ := Joins.open_agg4 Try.underlying24 (by kernel_rfl) (by kernel_rfl) (hval 2 24 v2 rfl rfl) h2
  obtain ⟨x20, rfl, w20⟩ := arg_int Try.underlying5 g20
  obtain ⟨x21, rfl, w21⟩ := arg_int Try.underlying5 g21
  obtain ⟨x22, rfl, w22⟩ := arg_int Try.underlying5 g22
  obtain ⟨x23, rfl, w23⟩ := arg_int Try.underlying5 g23
  obtain ⟨x3, rfl, rfl, rfl, w3⟩ := open_int Try.underlying5 (hval 3 5 v3 rfl rfl) h3
  obtain ⟨a4, c4, l4, rfl, hc4, hm4, hw4, hN4⟩ := arg_ints Try.underlying22 Try.underlying5 (by kernel_rfl) (hval 4 22 v4 rfl rfl) h4
  refine Calls.mono (show Does Try.prog 7 _ W [] _ from spritesNone_fn W a0 c0 l0 (byts_of hw0) hN0 a1 c1 l1 (byts_of hw1) hc1 hN1 x20 x21 x22 x23 (wf_u8 w20) (wf_u8 w21) (wf_u8 w22) (wf_u8 w23) x3 (wf_u8 w3) a4 c4 l4 (byts_of hw4) hN4) fun e W' ⟨v, G, he, hst, _, hv⟩ => ?_
  subst hv he
  have bel := below_of hst
  exact ⟨_, rfl, _, _, _, [], _, [], hW', trodAll_mk1 (shut_bool Try.underlying4 _), trodAll_below laidOut bel (by kernel_rfl) hAk, rfl, bel.frame _, fun h => by cases h⟩

/-- Whatever bytes, sprites, looks and lines come in, and whatever is below: SpritesNone returns true, and all reads as it did. -/
theorem spritesNone_holds : Rows.SpritesNoneSaid :=
  OpenClaim.holds_of_wide 7 Try.f7 rfl rfl rfl rfl rfl rfl rfl ⟨rfl, rfl, rfl, rfl, rfl⟩ rfl rfl rfl rfl rfl (by kernel_rfl) Try.func7 (by kernel_rfl)
    (of_decide_eq_true (by kernel_rfl)) (by unfold Func.isWrapper; first | (rw [if_pos (by decide +kernel)]; kernel_rfl) | (rw [if_neg (by decide +kernel)]; exact ⟨rfl, rfl⟩))
    (fun os started H enc _ => spritesNone_lifted os started H enc)

end Go.Proofs.Ytmdcapafaiemgaa
