/- Whatever comes in: SessionBack returns true, and all reads as it did; what is laid in the listed variables is tied to the text. -/
import Derived.LaidMore
import Derived.Test.YthigpmaadmneaaaGreatDoorCards
import Derived.Test.YthigpmaadmneaaaGreatDoorRows
import Derived.Test.YthigpmaadmneaaaGreatDoorTie
import Derived.Test.YthigpmaadmneaaaGreatDoorQsL
set_option maxRecDepth 100000
set_option maxHeartbeats 1000000
set_option linter.all false
namespace Go.Proofs.YthigpmaadmneaaaGreatDoor
open Go Go.VV Go.Proofs Go.ChangeShapes Go.WideShapes Go.ChangeAt Go.RowKit Go.Proofs.Tryz
def own : ownKnob prog.godebug = none := by kernel_rfl
def laidOut : laidOutB prog = true := by kernel_rfl
def and_i {a b : Bool} (h2 : b = true) (h1 : a = true) : (a && b) = true := by rw [h1, h2]; rfl
def Qs : List (String × DataW Unit) := [("math/bits.deBruijn32tab", Rows.laid_math_bits_deBruijn32tab), ("math/bits.deBruijn64tab", Rows.laid_math_bits_deBruijn64tab), ("internal/strconv.uint64pow10", Rows.laid_internal_strconv_uint64pow10), ("strconv.ErrRange", Rows.laid_strconv_ErrRange), ("strconv.ErrSyntax", Rows.laid_strconv_ErrSyntax)]
def door_met (os : Os) (args : Array AH) : laidMetH prog Qs ((World.doorLaid prog 400 os).forCall (fun _ _ => 0) ⟨#[], args, []⟩).memory :=
 laidMetH_of_parts3 (fuel := 8) (laidMet_of_run' 8 aO aO) aO aO
theorem sessionBack_lifted (os : Os) (started : os.Started) (H : Type) (enc : AJ × AH → H) :
  ReturnsInHanded {} Tryz.checked os 3 .any (fun w args => (Rows.sessionBackSpec.pre enc prog Tryz.f3 [] false w args ∧ laidMetH prog Qs w) ∧ sizedMet enc prog Tryz.f3 (OpenSpec.ofChange Rows.sessionBackSpec) false w args) (Rows.sessionBackSpec.post enc prog Tryz.f3 false true false false) := by
 refine returnsInHanded_of_change_and (C := Tryz.checked) (X := fun w _ => laidMetH prog Qs w) (fun _ _ _ hh h => h.of_heap hh) own started aO func3
  (ChangeSpec.witness_shaped (enc := enc) (C := Tryz.checked) (os := os) (X := fun w _ => laidMetH prog Qs w) false (World.doorLaid prog 400 os) #[.agg #[.int .u8 0, .slice none 0 0, .slice none 0 0, .bool false], .int .u8 0, .int .u8 0, .int .i64 0] 8 rfl (World.shaped_of_RefB aO aO) aO aO aO (door_met os _)) ?_
 intro W base args ds gs before hval0 hW hcnd _ hL _
 have hval : ∀ (j : Nat) t v, Tryz.f3.params[j]? = some t → args[j]? = some v → Value.okWide prog W .any base t v := hval0
 have hW' := hW
 obtain ⟨p, q, hA0, hV, rfl, hfz, hnd⟩ := hW
 have hA : DataW.TrodAll enc prog W 0 (fun _ => true) true Tryz.f3.params.toList args.toList ds p := hA0
 rw [Tryz.params3] at hA hval
 obtain ⟨args⟩ := args
 obtain ⟨rfl, rfl⟩ := trodVars_none hV
 simp only [] at hA
 have hAk := hA
 obtain ⟨v0, vs0, d0, ds0, p0, q0, rfl, rfl, rfl, h0, r0⟩ := trodAll_cons hA
 obtain ⟨v1, vs1, d1, ds1, p1, q1, rfl, rfl, rfl, h1, r1⟩ := trodAll_cons r0
 obtain ⟨v2, vs2, d2, ds2, p2, q2, rfl, rfl, rfl, h2, r2⟩ := trodAll_cons r1
 obtain ⟨v3, vs3, d3, ds3, p3, q3, rfl, rfl, rfl, h3, r3⟩ := trodAll_cons r2
 obtain ⟨rfl, rfl, rfl⟩ := trodAll_nil r3
 obtain ⟨x0, rfl, w0⟩ := aJN (ks := [.int .u8, .ints .u8, .rows [.int .u64, .int .u8], .bool]) (c := cGs) (p := (fun g => g.q.Ok W)) Tryz.underlying25 aO aNf (hval 0 25 v0 rfl rfl) h0
 obtain ⟨x1, rfl, rfl, rfl, w1⟩ := open_int Tryz.underlying5 (hval 1 5 v1 rfl rfl) h1
 obtain ⟨x2, rfl, rfl, rfl, w2⟩ := open_int Tryz.underlying5 (hval 2 5 v2 rfl rfl) h2
 obtain ⟨x3, rfl, rfl, rfl, w3⟩ := open_int Tryz.underlying3 (hval 3 3 v3 rfl rfl) h3
 refine Calls.mono (show aG prog 3 _ W [] _ from aHS x0 x1 x2 x3 (Ir w1) (Ir w2) W w0) fun e W' ⟨v, G, he, hst, _, hv⟩ => ?_
 subst hv he
 have bel := aJS hst
 exact ⟨_, U, _, _, _, [], _, [], hW', trodAll_mk1 (shut_bool Tryz.underlying4 _), P1 laidOut bel aO hAk, U, bel.frame _, fun h => by cases h⟩
set_option maxHeartbeats 8000000 in
theorem sessionBack_holds : Rows.SessionBackSaid :=
 OpenClaim.holds_of_wide 3 Tryz.f3 rfl rfl rfl rfl rfl rfl rfl ⟨rfl, rfl, rfl, rfl, rfl⟩ rfl rfl rfl rfl rfl aO func3 (by unfold joinedFacts; (repeat refine and_i eU ?_); decide +kernel)
  (dr aO) (by unfold Func.isWrapper; first | (rw [ag eU]; kernel_rfl) | (rw [ae eU]; exact ⟨rfl, rfl⟩))
  (fun os started H enc _ => sessionBack_lifted os started H enc)
end Go.Proofs.YthigpmaadmneaaaGreatDoor
