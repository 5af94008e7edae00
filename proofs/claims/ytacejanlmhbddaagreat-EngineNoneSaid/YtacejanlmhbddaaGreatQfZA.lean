/- Whatever game, capacity, steps and point come in: EngineNone returns true, and all reads as it did. -/
import Derived.Test.YtacejanlmhbddaaGreatQfO
import Derived.Test.YtacejanlmhbddaaGreatQfZ
set_option maxRecDepth 100000
set_option maxHeartbeats 1000000
set_option linter.all false
namespace Go.Proofs.YtacejanlmhbddaaGreat
open Go Go.VV Go.Proofs Go.ChangeShapes Go.WideShapes Go.ChangeAt Go.RowKit Go.Proofs.Tryz
theorem engineNone_lifted (os : Os) (started : os.Started) (H : Type) (enc : AJ × AH → H) :
  ReturnsInHanded {} Tryz.checked os 7 .any (Rows.engineNoneSpec.pre6 enc prog Tryz.f7 Rows.engineNoneRow.domain false) (Rows.engineNoneSpec.post enc prog Tryz.f7 false true false false) := by
 refine returnsInHanded_of_change (C := Tryz.checked) own started y_f func7
  (ChangeSpec.witness6 (enc := enc) (C := Tryz.checked) false ⟨#[], #[.agg #[.int .u8 0, .slice none 0 0, .slice none 0 0], .int .i64 0, .int .u16 0, .agg #[.int .i64 0, .int .u16 0]], []⟩ 8 y_f y_f y_f y_f) ?_
 intro W base args ds gs before hval0 hW hcnd _
 have hval : ∀ (j : Nat) t v, Tryz.f7.params[j]? = some t → args[j]? = some v → Value.okWide prog W .any base t v := hval0
 have hW' := hW
 obtain ⟨p, q, hA0, hV, rfl, hfz, hnd⟩ := hW
 have hA : DataW.TrodAll enc prog W 0 (fun _ => true) true Tryz.f7.params.toList args.toList ds p := hA0
 rw [Tryz.params7] at hA hval
 obtain ⟨args⟩ := args
 obtain ⟨rfl, rfl⟩ := trodVars_none hV
 simp only [] at hA
 have hAk := hA
 obtain ⟨v0, vs0, d0, ds0, p0, q0, rfl, rfl, rfl, h0, r0⟩ := trodAll_cons hA
 obtain ⟨v1, vs1, d1, ds1, p1, q1, rfl, rfl, rfl, h1, r1⟩ := trodAll_cons r0
 obtain ⟨v2, vs2, d2, ds2, p2, q2, rfl, rfl, rfl, h2, r2⟩ := trodAll_cons r1
 obtain ⟨v3, vs3, d3, ds3, p3, q3, rfl, rfl, rfl, h3, r3⟩ := trodAll_cons r2
 obtain ⟨rfl, rfl, rfl⟩ := trodAll_nil r3
 obtain ⟨x0, rfl, w0⟩ := vG (ks := [.int .u8, .ints .u8, .rows [.int .u64, .int .u8]]) (c := cGq) (p := Gq.Ok W) Tryz.underlying25 y_f aDe (hval 0 25 v0 rfl rfl) h0
 obtain ⟨x1, rfl, rfl, rfl, w1⟩ := open_int Tryz.underlying3 (hval 1 3 v1 rfl rfl) h1
 obtain ⟨x2, rfl, rfl, rfl, w2⟩ := open_int Tryz.underlying56 (hval 2 56 v2 rfl rfl) h2
 obtain ⟨x3, rfl, w3⟩ := aO6 (ks := [.int .i64, .int .u16]) (c := cPn) (p := fun _ => True) Tryz.underlying58 y_f aTf (hval 3 58 v3 rfl rfl) h3
 refine Calls.mono (show aB prog 7 _ W [] _ from aRI x0 x1 x2 x3 (aTb w2) W w0) fun e W' ⟨v, G, he, hst, _, hv⟩ => ?_
 subst hv he
 have bel := zI hst
 exact ⟨_, rfl, _, _, _, [], _, [], hW', trodAll_mk1 (shut_bool Tryz.underlying4 _), lW laidOut bel y_f hAk, rfl, bel.frame _, fun h => y_eO⟩
set_option maxHeartbeats 8000000 in
theorem engineNone_holds : Rows.EngineNoneSaid :=
 OpenClaim.holds_of_wide 7 Tryz.f7 rfl rfl rfl rfl rfl rfl rfl ⟨rfl, rfl, rfl, rfl, rfl⟩ rfl rfl rfl rfl rfl y_f func7 y_ef
  (ct y_f) y_d9
  (fun os started H enc _ => engineNone_lifted os started H enc)
end Go.Proofs.YtacejanlmhbddaaGreat
