/- The unit that makes the picture: how often its signal comes on, by the lines. Plain definitions and laws, no program. -/
import Derived.Test.YtjceoaomkbabmaaLaps
namespace Go.Proofs.Ytjceoaomkbabmaa
open Go Go.VV

def sigB (a b c d v y : Bool) (dot : Nat) : Bool := (bif v then (bif Nat.blt dot 20 then c else bif Nat.blt dot 63 then false else a) else b) || (d && y)
def posSig (a b c d : Bool) (L p : Nat) : Bool := sigB a b c d (Nat.blt (p / 114) 144) (Nat.beq (p / 114) L) (p % 114)
def rl (a b c d v y v' y' : Bool) : Nat := sumTo (fun j => bif sigB a b c d v y j && !(bif Nat.beq j 0 then sigB a b c d v' y' 113 else sigB a b c d v y (j - 1)) then 1 else 0) 114
def rlc (a b c d v y v' y' : Bool) : Nat := (bif ((bif v then c else b) || (d && y)) && !((bif v' then a else b) || (d && y')) then 1 else 0) + (bif v && !(d && y) && a then 1 else 0)
theorem rl_eq : ∀ a b c d v y v' y' : Bool, rl a b c d v y v' y' = rlc a b c d v y v' y' := by decide +kernel
def totB (a b c d : Bool) (L : Nat) : Nat := sumTo (fun i => rlc a b c d (Nat.blt i 144) (Nat.beq i L) (Nat.blt ((i + 153) % 154) 144) (Nat.beq ((i + 153) % 154) L)) 154
def tot (h L : Nat) : Nat := totB (Nat.beq (h % 2) 1) (Nat.beq (h / 2 % 2) 1) (Nat.beq (h / 4 % 2) 1) (Nat.beq (h / 8 % 2) 1) L
def numB (a b c d : Bool) : Nat := (bif a then 1 else 0) + (bif b then 2 else 0) + (bif c then 4 else 0) + (bif d then 8 else 0)
theorem num_h : ∀ h : Fin 16, numB (Nat.beq (h.val % 2) 1) (Nat.beq (h.val / 2 % 2) 1) (Nat.beq (h.val / 4 % 2) 1) (Nat.beq (h.val / 8 % 2) 1) = h.val := by decide +kernel
def goodB (h L n : Nat) : Bool := (!Nat.beq h 0 || Nat.beq n 0) && (!Nat.beq h 8 || (bif Nat.blt L 154 then Nat.beq n 1 else Nat.beq n 0)) && (!(Nat.beq h 1 || Nat.beq h 4 || Nat.beq h 3) || Nat.beq n 144) && (!Nat.beq h 2 || Nat.beq n 1) && (Nat.beq h 0 || Nat.beq h 8 || (Nat.blt 0 n && Nat.ble n 300))
def good (h L n : Nat) : Prop := (h = 0 → n = 0) ∧ (h = 8 → (L < 154 → n = 1) ∧ (154 ≤ L → n = 0)) ∧ ((h = 1 ∨ h = 4 ∨ h = 3) → n = 144) ∧ (h = 2 → n = 1) ∧ (h ≠ 0 → h ≠ 8 → 0 < n ∧ n ≤ 300)
theorem good_of {h L n : Nat} (hg : goodB h L n = true) : good h L n := by
  unfold goodB at hg
  simp only [Bool.and_eq_true, Bool.or_eq_true, Bool.not_eq_true', Nat.beq_eq, Nat.blt_eq, Nat.ble_eq, cond_eq_ite, beq_eq_false_iff_ne] at hg
  have nb : ∀ {a b : Nat}, Nat.beq a b = false → a ≠ b := fun h9 h8 => by subst h8; rw [Nat.beq_refl] at h9; cases h9
  obtain ⟨⟨⟨⟨h1, h2⟩, h3⟩, h4⟩, h5⟩ := hg
  refine ⟨fun hx => ?_, fun hx => ⟨fun hL => ?_, fun hL => ?_⟩, fun hx => ?_, fun hx => ?_, fun hx hy => ?_⟩
  · rcases h1 with h1 | h1
    · exact absurd hx (nb h1)
    · exact h1
  · rcases h2 with h2 | h2
    · exact absurd hx (nb h2)
    · rw [if_pos hL] at h2; exact Nat.eq_of_beq_eq_true h2
  · rcases h2 with h2 | h2
    · exact absurd hx (nb h2)
    · rw [if_neg (by omega)] at h2; exact Nat.eq_of_beq_eq_true h2
  · rcases h3 with h3 | h3
    · rcases hx with rfl | rfl | rfl <;> exact absurd h3 (by decide)
    · exact h3
  · rcases h4 with h4 | h4
    · exact absurd hx (nb h4)
    · exact h4
  · rcases h5 with (h5 | h5) | h5
    · exact absurd h5 hx
    · exact absurd h5 hy
    · exact h5
def upTo155 (p : Nat → Bool) : Nat → Bool
  | 0 => true
  | n + 1 => p n && upTo155 p n
theorem upTo155_all {p : Nat → Bool} : ∀ {n i : Nat}, upTo155 p n = true → i < n → p i = true
  | n + 1, i, h, hi => by
    rw [upTo155, Bool.and_eq_true] at h
    rcases Nat.lt_or_ge i n with h1 | h1
    · exact upTo155_all h.2 h1
    · obtain rfl : i = n := by omega
      exact h.1
theorem tot_goodB : ∀ a b c d : Bool, upTo155 (fun L => goodB (numB a b c d) L (totB a b c d L)) 155 = true := by decide +kernel
theorem tot_good {h L : Nat} (hh : h < 16) (hL : L < 155) : good h L (tot h L) := by
  have := upTo155_all (tot_goodB (Nat.beq (h % 2) 1) (Nat.beq (h / 2 % 2) 1) (Nat.beq (h / 4 % 2) 1) (Nat.beq (h / 8 % 2) 1)) hL
  rw [num_h ⟨h, hh⟩] at this
  exact good_of this
theorem beq_min {i L : Nat} (h : i < 154) : Nat.beq i L = Nat.beq i (min L 154) := by
  rcases Nat.lt_or_ge L 154 with h1 | h1
  · rw [Nat.min_eq_left (by omega)]
  · rw [Nat.min_eq_right h1, (Bool.eq_false_iff.2 fun h9 => (by have := Nat.eq_of_beq_eq_true h9; omega : False) : Nat.beq i L = false), (Bool.eq_false_iff.2 fun h9 => (by have := Nat.eq_of_beq_eq_true h9; omega : False) : Nat.beq i 154 = false)]
theorem tot_min (h L : Nat) : tot h L = tot h (min L 154) := sumTo_congr fun i hi => by rw [beq_min hi, beq_min (L := L) (show (i + 153) % 154 < 154 from Nat.mod_lt _ (by decide))]
theorem good_all {h L : Nat} (hh : h < 16) : good h L (tot h L) := by
  have := tot_good hh (show min L 154 < 155 by omega)
  rw [← tot_min] at this
  obtain ⟨h1, h2, h3, h4, h5⟩ := this
  exact ⟨h1, fun hx => ⟨fun hL => (h2 hx).1 (by show min L 154 < 154; omega), fun hL => (h2 hx).2 (by show 154 ≤ min L 154; omega)⟩, h3, h4, h5⟩
end Go.Proofs.Ytjceoaomkbabmaa
