/- A sprite turned upside down, and about left and right: its numbers. No program. -/
import Derived.Test.YtmdcapafaiemgaaMath
namespace Go.Proofs.Ytmdcapafaiemgaa
open Go Go.VV

theorem spDot_lit (l : List Int) (y x t h c X L : Int) : spDot l [y, x, t, h] c 0 X L = sDot l c (y - 16) (x - 8) t h X L := by simp [spDot, oB]
theorem sDot_in (l : List Int) (c y x0 t h X L : Int) (hin : ¬ (L < y ∨ y + hgt c ≤ L ∨ X < x0 ∨ x0 + 8 ≤ X)) : sDot l c y x0 t h X L =
    tDot l (if hgt c = 16 then t / 2 * 2 + (if rBit h 6 = 1 then hgt c - 1 - (L - y) else L - y) / 8 else t) (if rBit h 5 = 1 then 7 - (X - x0) else X - x0) (if rBit h 6 = 1 then hgt c - 1 - (L - y) else L - y) := by
  unfold sDot
  rw [if_neg hin]
theorem xor64 {h : Int} (hh : 0 ≤ h ∧ h < 256) : (0 ≤ bxor .u8 h 64 ∧ bxor .u8 h 64 < 256) ∧ rBit (bxor .u8 h 64) 6 = 1 - rBit h 6 ∧ rBit (bxor .u8 h 64) 5 = rBit h 5 := by
  have := byte_all (p := fun h => decide (0 ≤ bxor .u8 h 64 ∧ bxor .u8 h 64 < 256) && (decide (rBit (bxor .u8 h 64) 6 = 1 - rBit h 6) && decide (rBit (bxor .u8 h 64) 5 = rBit h 5)) = true) (by decide +kernel) hh.1 hh.2
  simp only [Bool.and_eq_true, decide_eq_true_eq] at this
  exact this
theorem xor32 {h : Int} (hh : 0 ≤ h ∧ h < 256) : (0 ≤ bxor .u8 h 32 ∧ bxor .u8 h 32 < 256) ∧ rBit (bxor .u8 h 32) 6 = rBit h 6 ∧ rBit (bxor .u8 h 32) 5 = 1 - rBit h 5 := by
  have := byte_all (p := fun h => decide (0 ≤ bxor .u8 h 32 ∧ bxor .u8 h 32 < 256) && (decide (rBit (bxor .u8 h 32) 6 = rBit h 6) && decide (rBit (bxor .u8 h 32) 5 = 1 - rBit h 5)) = true) (by decide +kernel) hh.1 hh.2
  simp only [Bool.and_eq_true, decide_eq_true_eq] at this
  exact this
theorem turn64 {l : List Int} {c y x t h i j : Int} (hh : 0 ≤ h ∧ h < 256) (hi : 0 ≤ i ∧ i < hgt c) (hj : 0 ≤ j ∧ j < 8) :
    spDot l [y, x, t, bxor .u8 h 64] c 0 (x - 8 + j) (y - 16 + hgt c - 1 - i) = spDot l [y, x, t, h] c 0 (x - 8 + j) (y - 16 + i) := by
  obtain ⟨_, h6, h5⟩ := xor64 hh
  rw [spDot_lit, spDot_lit, sDot_in _ _ _ _ _ _ _ _ (by omega), sDot_in _ _ _ _ _ _ _ _ (by omega), h6, h5]
  have e1 : y - 16 + hgt c - 1 - i - (y - 16) = hgt c - 1 - i := by omega
  have e2 : y - 16 + i - (y - 16) = i := by omega
  have e3 : hgt c - 1 - (hgt c - 1 - i) = i := by omega
  rw [e1, e2, e3]
  rcases rBit_01 h 6 with h0 | h0 <;> simp [h0]
theorem turn32 {l : List Int} {c y x t h i j : Int} (hh : 0 ≤ h ∧ h < 256) (hi : 0 ≤ i ∧ i < hgt c) (hj : 0 ≤ j ∧ j < 8) :
    spDot l [y, x, t, bxor .u8 h 32] c 0 (x - 8 + 7 - j) (y - 16 + i) = spDot l [y, x, t, h] c 0 (x - 8 + j) (y - 16 + i) := by
  obtain ⟨_, h6, h5⟩ := xor32 hh
  rw [spDot_lit, spDot_lit, sDot_in _ _ _ _ _ _ _ _ (by omega), sDot_in _ _ _ _ _ _ _ _ (by omega), h6, h5]
  have e1 : x - 8 + 7 - j - (x - 8) = 7 - j := by omega
  have e2 : x - 8 + j - (x - 8) = j := by omega
  have e3 : 7 - (7 - j) = j := by omega
  rw [e1, e2, e3]
  rcases rBit_01 h 5 with h0 | h0 <;> simp [h0]
theorem tDot_four (l : List Int) (t x y : Int) : 0 ≤ tDot l t x y ∧ tDot l t x y < 4 := by
  unfold tDot
  split
  · omega
  · have := rBit_01 (vAt l (16 * t + 2 * (y % 8))) (7 - x % 8)
    have := rBit_01 (vAt l (16 * t + 2 * (y % 8) + 1)) (7 - x % 8)
    omega
theorem spDot_four (l oam : List Int) (c n x line : Int) : 0 ≤ spDot l oam c n x line ∧ spDot l oam c n x line < 4 := by
  unfold spDot sDot
  split
  · omega
  · split
    · omega
    · exact tDot_four _ _ _ _
theorem mod_hgt (c : Int) {r : Int} (hr : 0 ≤ r) : (0 ≤ r % hgt c ∧ r % hgt c < hgt c) ∧ r.tmod (hgt c) = r % hgt c := by
  have hg := hgt_two c
  refine ⟨⟨Int.emod_nonneg _ (by omega), Int.emod_lt_of_pos _ (by omega)⟩, Int.tmod_eq_emod_of_nonneg hr⟩
theorem byts4 {y x t h : Int} (hy : 0 ≤ y ∧ y < 256) (hx : 0 ≤ x ∧ x < 256) (ht : 0 ≤ t ∧ t < 256) (hh : 0 ≤ h ∧ h < 256) : Byts [y, x, t, h] := by
  intro z hz
  simp only [List.mem_cons, List.not_mem_nil, or_false] at hz
  rcases hz with rfl | rfl | rfl | rfl <;> assumption
end Go.Proofs.Ytmdcapafaiemgaa
