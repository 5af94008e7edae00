/- More of the sprites' numbers: no more than ten; turned about. No program. -/
import Derived.Test.YtmdcapafaiemgaaMath
namespace Go.Proofs.Ytmdcapafaiemgaa
open Go Go.VV

/-! ### no more than ten -/
def atK (oam : List Int) (c line : Int) (k : Nat) : Nat := min 10 (scanK oam c line k).length
def told (oam : List Int) (c line : Int) (k : Nat) : Bool := hasB oam c line k && decide ((scanK oam c line k).length < 10)
theorem atK_ten (oam : List Int) (c line : Int) (k : Nat) : atK oam c line k ≤ 10 := Nat.min_le_left _ _
theorem atK_zero (oam : List Int) (c line : Int) : atK oam c line 0 = 0 := by simp [atK, scanK]
theorem atK_all (oam : List Int) (c line : Int) : atK oam c line 40 = (scan oam c line).length := by rw [atK, scan_len, Nat.min_comm]
theorem atK_yes {oam : List Int} {c line : Int} {k : Nat} (h : told oam c line k = true) : IntKind.i64.wrap ((atK oam c line k : Int) + 1) = (atK oam c line (k + 1) : Int) := by
  simp only [told, Bool.and_eq_true, decide_eq_true_eq] at h
  have h1 := scanK_yes h.1
  have h2 : (scanK oam c line (k + 1)).length = (scanK oam c line k).length + 1 := by rw [h1]; simp
  unfold atK
  rw [wrap_i64 (by omega) (by omega)]
  omega
theorem atK_no {oam : List Int} {c line : Int} {k : Nat} (h : told oam c line k = false) : atK oam c line k = atK oam c line (k + 1) := by
  unfold atK
  cases hh : hasB oam c line k with
  | false => rw [scanK_no hh]
  | true =>
    simp only [told, hh, Bool.true_and, decide_eq_false_iff_not] at h
    have h2 : (scanK oam c line (k + 1)).length = (scanK oam c line k).length + 1 := by rw [scanK_yes hh]; simp
    omega
theorem atK_full {oam : List Int} {c line : Int} {k : Nat} (hh : hasB oam c line k = true) (h : told oam c line k = false) : ¬ (atK oam c line (k + 1) < 10) := by
  rw [← atK_no h]
  simp only [told, hh, Bool.true_and, decide_eq_false_iff_not] at h
  unfold atK
  omega
theorem scanK_split (oam : List Int) (c line : Int) (k m : Nat) (h : k ≤ m) : ∃ r, scanK oam c line m = scanK oam c line k ++ r ∧ ∀ x ∈ r, (k : Int) ≤ x := by
  induction m with
  | zero => exact ⟨[], by have : k = 0 := by omega
                          subst this; simp, by simp⟩
  | succ m ih =>
    by_cases hk : k = m + 1
    · exact ⟨[], by subst hk; simp, by simp⟩
    · obtain ⟨r, h1, h2⟩ := ih (by omega)
      cases hh : hasB oam c line m with
      | false => exact ⟨r, by rw [scanK_no hh, h1], h2⟩
      | true =>
        refine ⟨r ++ [(m : Int)], by rw [scanK_yes hh, h1, List.append_assoc], fun x hx => ?_⟩
        rcases List.mem_append.1 hx with hx | hx
        · exact h2 x hx
        · simp only [List.mem_singleton] at hx; subst hx; omega
theorem getD_take {l : List Int} {n i : Nat} (h : i < n) : (l.take n).getD i 0 = l.getD i 0 := by
  rw [List.getD_eq_getElem?_getD, List.getElem?_take, if_pos h, List.getD_eq_getElem?_getD]
theorem told_in {oam : List Int} {c line : Int} {k : Nat} (hk : k < 40) (h : atK oam c line k < (scan oam c line).length) : ((scan oam c line).getD (atK oam c line k) 0 == (k : Int)) = told oam c line k := by
  rw [scan_len] at h
  have hlt : (scanK oam c line k).length < 10 := by unfold atK at h; omega
  have hat : atK oam c line k = (scanK oam c line k).length := by unfold atK; omega
  obtain ⟨r, h1, h2⟩ := scanK_split oam c line (k + 1) 40 (by omega)
  rw [hat] at h ⊢
  unfold scan
  rw [getD_take hlt]
  cases hh : hasB oam c line k with
  | true =>
    have ht : told oam c line k = true := by simp [told, hh, hlt]
    rw [ht, h1, scanK_yes hh]
    simp [List.getD_eq_getElem?_getD]
  | false =>
    have ht : told oam c line k = false := by simp [told, hh]
    rw [scanK_no hh] at h1
    have hr : 0 < r.length := by rw [h1, List.length_append] at h; omega
    obtain ⟨x, r', rfl⟩ : ∃ x r', r = x :: r' := by cases r with
      | nil => simp at hr
      | cons x r' => exact ⟨x, r', rfl⟩
    have hx := h2 x (.head _)
    rw [ht, h1]
    simp [List.getD_eq_getElem?_getD]
    omega
theorem told_out {oam : List Int} {c line : Int} {k : Nat} (hk : k < 40) (h : ¬ atK oam c line k < (scan oam c line).length) : false = told oam c line k := by
  cases ht : told oam c line k with
  | false => rfl
  | true =>
    exfalso; apply h
    simp only [told, Bool.and_eq_true, decide_eq_true_eq] at ht
    obtain ⟨r, h1, h2⟩ := scanK_split oam c line (k + 1) 40 (by omega)
    rw [scanK_yes ht.1] at h1
    have : (scanK oam c line 40).length = (scanK oam c line k).length + 1 + r.length := by rw [h1]; simp; omega
    rw [scan_len]
    unfold atK
    omega
theorem top_in {oam : List Int} (ho : Byts oam) (k : Nat) : IntKind.i64.wrap (IntKind.i64.wrap (oam.getD (4 * k) 0) - 16) = oB oam (k : Int) 0 - 16 := by
  have h := ho.get (4 * k)
  rw [wrap_i64 (n := oam.getD (4 * k) 0) (by omega) (by omega), wrap_i64 (by omega) (by omega)]
  simp [oB]
theorem top_out {oam : List Int} {k : Nat} (h : oam.length ≤ 4 * k) : (-16 : Int) = oB oam (k : Int) 0 - 16 := by
  simp [oB, List.getD_eq_getElem?_getD, List.getElem?_eq_none h]
theorem has_in {oam : List Int} (ho : Byts oam) {c line : Int} {k : Nat} (hl : 0 ≤ line ∧ line < 256) (h : decide (IntKind.i64.wrap line ≥ oB oam (k : Int) 0 - 16) = true) :
    decide (IntKind.i64.wrap line < IntKind.i64.wrap (oB oam (k : Int) 0 - 16 + hgt c)) = hasB oam c line k := by
  have h0 := oB_byte ho k 0
  have hg := hgt_two c
  rw [wrap_i64 (n := line) (by omega) (by omega)] at h ⊢
  rw [wrap_i64 (by omega) (by omega)]
  simp only [decide_eq_true_eq] at h
  simp [hasB]; omega
theorem has_out {oam : List Int} {c line : Int} {k : Nat} (hl : 0 ≤ line ∧ line < 256) (h : decide (IntKind.i64.wrap line ≥ oB oam (k : Int) 0 - 16) = false) : false = hasB oam c line k := by
  rw [wrap_i64 (n := line) (by omega) (by omega)] at h
  simp only [decide_eq_false_iff_not] at h
  simp [hasB]; omega
theorem hgt_16 {c : Int} (hc : 0 ≤ c ∧ c < 256) (h : (band .u8 c 4 != 0) = true) : (16 : Int) = hgt c := by have := phgt_law hc h; simpa using this
theorem hgt_8 {c : Int} (hc : 0 ≤ c ∧ c < 256) (h : (band .u8 c 4 != 0) = false) : (8 : Int) = hgt c := by have := phgt_law hc h; simpa using this
end Go.Proofs.Ytmdcapafaiemgaa
