/- The document's calls and last steps, as plain lists. -/
import Derived.Test.YtmafgccagaihbaaSteps
namespace Go.Proofs.Ytmafgccagaihbaa
open Go Go.VV

def howI (s : Stp) : Int := if s.what = 2 then 3 else if s.what = 1 ∧ s.kind = 25 ∧ s.taken = true then 1 else if s.what = 1 ∧ s.kind = 28 then 2 else 0
def backI (s : Stp) : Int := if howI s < 3 then backOf s else s.at_
def callI (s : Stp) : Cll := ⟨howI s, s.bank, s.at_, s.to, backI s⟩
theorem how_some {s : Stp} (h : 0 < howI s) : callOf s = some (callI s) := by
  unfold callI backI callOf
  unfold howI at h ⊢
  by_cases h2 : s.what = 2
  · simp [h2]
  · by_cases h1 : s.what = 1 ∧ s.kind = 25 ∧ s.taken = true
    · simp [h1]
    · by_cases h3 : s.what = 1 ∧ s.kind = 28
      · simp [h3]
      · simp [h2, h1, h3] at h
theorem how_none {s : Stp} (h : ¬ 0 < howI s) : callOf s = none := by
  unfold callOf
  unfold howI at h
  by_cases h2 : s.what = 2
  · simp [h2] at h
  · by_cases h1 : s.what = 1 ∧ s.kind = 25 ∧ s.taken = true
    · simp [h1] at h
    · by_cases h3 : s.what = 1 ∧ s.kind = 28
      · simp [h3] at h
      · simp [h2, h1, h3]
theorem how_rets {s : Stp} (h : 0 < howI s) : retsB s = false := by
  unfold retsB
  unfold howI at h
  by_cases h2 : s.what = 2
  · simp [h2]
  · by_cases h1 : s.what = 1 ∧ s.kind = 25 ∧ s.taken = true
    · simp [h1]
    · by_cases h3 : s.what = 1 ∧ s.kind = 28
      · simp [h3]
      · simp [h2, h1, h3] at h
theorem noteC_how {s : Stp} (h : 0 < howI s) (cs : List Cll) : noteC cs s = layC cs (callI s) := by
  unfold noteC; rw [how_some h]
theorem noteC_rets {s : Stp} (h : ¬ 0 < howI s) (hr : retsB s = true) (cs : List Cll) : noteC cs s = cs.dropLast := by
  unfold noteC; rw [how_none h]; simp [hr]
theorem noteC_rets0 {s : Stp} (h : ¬ 0 < howI s) (hr : retsB s = true) {cs : List Cll} (hl : ¬ 0 < cs.length) : noteC cs s = cs := by
  rw [noteC_rets h hr, pop_zero (by omega)]
theorem noteC_no {s : Stp} (h : ¬ 0 < howI s) (hr : retsB s = false) (cs : List Cll) : noteC cs s = cs := by
  unfold noteC; rw [how_none h]; simp [hr]
theorem mod_mod (X : Int) : IntKind.u16.wrap ((IntKind.i64.wrap (X.tmod 65536 + 65536)).tmod 65536) = X % 65536 := by
  have h1 : -65536 < X.tmod 65536 ∧ X.tmod 65536 < 65536 ∧ (X.tmod 65536 - X) % 65536 = 0 := by
    rcases Int.lt_or_le X 0 with h | h
    · have h2 : X.tmod 65536 = -((-X) % 65536) := by
        have h3 : X = -(-X) := by omega
        conv => lhs; rw [h3]
        rw [Int.neg_tmod, Int.tmod_eq_emod_of_nonneg (by omega)]
      rw [h2]; omega
    · rw [Int.tmod_eq_emod_of_nonneg h]; omega
  rw [wrap_i64 (by omega) (by omega), Int.tmod_eq_emod_of_nonneg (by omega), wrap_u16]
  omega
theorem back_c {s : Stp} (h : howI s < 3) : IntKind.u16.wrap ((IntKind.i64.wrap ((IntKind.i64.wrap (s.at_ + s.size)).tmod 65536 + 65536)).tmod 65536) = backI s := by
  rw [mod_mod, backI, if_pos h, backOf]
  simp only [IntKind.wrap, IntKind.bits, IntKind.signed]
  simp
  omega
theorem back_i {s : Stp} (hs : StpOk s) (h : ¬ howI s < 3) : IntKind.u16.wrap ((IntKind.i64.wrap ((s.at_).tmod 65536 + 65536)).tmod 65536) = backI s := by
  rw [mod_mod, backI, if_neg h]
  have := hs.at0
  omega
theorem how_lt (s : Stp) : 0 ≤ howI s ∧ howI s ≤ 3 := by
  unfold howI; split <;> (try split) <;> (try split) <;> omega
theorem last_all {l : List Stp} {k : Nat} (h : l.length ≤ k) : lastL l k = l := by unfold lastL; rw [show l.length - k = 0 by omega, List.drop_zero]
theorem last_get {l : List Stp} {k j : Nat} {s : Stp} (h : (lastL l k)[j]? = some s) : l[l.length - k + j]? = some s := by
  unfold lastL at h; rw [List.getElem?_drop] at h; exact h
def lastV (a : Option Addr) (c n k : Nat) : Value := if n ≤ k then .slice a n c else match a with
  | some ⟨b, off, _⟩ => .slice (some ⟨b, cutAt off (n - k) 12 c, none⟩) (n - (n - k)) (c - (n - k))
  | none => .slice none 0 0
theorem last_els {w : World} {a : Option Addr} {c k : Nat} {l : List Stp} (hE : Els w cS a l) (hc : l.length ≤ c) : ∃ a' c', lastV a c l.length k = .slice a' (lastL l k).length c' ∧ Els w cS a' (lastL l k) := by
  unfold lastV
  by_cases h : l.length ≤ k
  · rw [if_pos h, last_all h]; exact ⟨a, c, rfl, hE⟩
  · rw [if_neg h]
    obtain ⟨b, off, rfl, hr⟩ := hE (by omega)
    refine ⟨some ⟨b, cutAt off (l.length - k) 12 c, none⟩, c - (l.length - k), ?_, fun _ => ⟨b, _, rfl, row_dropE cS_len (sp := []) (by rw [List.append_nil]; exact hr) (by omega) hc⟩⟩
    rw [lastL_len, Nat.min_eq_right (by omega), show l.length - (l.length - k) = k by omega]
end Go.Proofs.Ytmafgccagaihbaa
