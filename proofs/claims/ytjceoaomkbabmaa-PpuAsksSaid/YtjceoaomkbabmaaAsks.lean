/- The unit that makes the picture: how often its signal comes on. Plain definitions and laws, no program. -/
import Derived.Test.YtjceoaomkbabmaaAsksT
namespace Go.Proofs.Ytjceoaomkbabmaa
open Go Go.VV

/-! ### the signal, by the place -/
def bitA (u : PU) (m : Int) : Bool := band .u8 (u.r 1) m != 0
def Settled (u : PU) : Prop := u.sig = sigU u
theorem blt_int (a b : Nat) : Nat.blt a b = decide (a < b) := by
  by_cases h : a < b
  · rw [decide_eq_true h]; simpa [Nat.blt_eq] using h
  · rw [decide_eq_false h]; exact Bool.eq_false_iff.2 fun h9 => h (by simpa [Nat.blt_eq] using h9)
section
variable {u : PU}
theorem sig_pos (h : u.Ok) (hl : litU u = true) : sigU u = posSig (bitA u 8) (bitA u 16) (bitA u 32) (bitA u 64) (u.r 5).toNat (posU u) := by
  have hb := h.wf.look 5
  have hy : (u.line == u.r 5) = Nat.beq (posU u / 114) (u.r 5).toNat := by
    rw [line_pos h]
    by_cases c : posU u / 114 = (u.r 5).toNat
    · rw [c, show Nat.beq (u.r 5).toNat (u.r 5).toNat = true from Nat.beq_refl _]
      exact beq_iff_eq.2 (by omega)
    · rw [Bool.eq_false_iff.2 fun h9 => c (Nat.eq_of_beq_eq_true h9)]
      exact beq_eq_false_iff_ne.2 (by omega)
  have hm : (band .u8 (u.r 1) (modeBit (modeU u)) != 0) = (bif Nat.blt (posU u / 114) 144 then (bif Nat.blt (posU u % 114) 20 then bitA u 32 else bif Nat.blt (posU u % 114) 63 then false else bitA u 8) else bitA u 16) := by
    rw [mode_pos h hl, modeP_eq, blt_int, blt_int, blt_int]
    have h0 : (band .u8 (u.r 1) 0 != 0) = false := by
      have := byte_all (p := fun c => (band .u8 c 0 != 0) = false) (by decide +kernel) (h.wf.look 1).1 (h.wf.look 1).2
      exact this
    by_cases c1 : 144 ≤ posU u / 114
    · rw [if_pos c1, decide_eq_false (show ¬ posU u / 114 < 144 by omega)]; rfl
    · rw [if_neg c1, decide_eq_true (show posU u / 114 < 144 by omega)]
      by_cases c2 : posU u % 114 < 20
      · rw [if_pos c2, decide_eq_true c2]; rfl
      · rw [if_neg c2, decide_eq_false c2]
        by_cases c3 : posU u % 114 < 63
        · rw [if_pos c3, decide_eq_true c3]; exact h0
        · rw [if_neg c3, decide_eq_false c3]; rfl
  unfold sigU foundU posSig sigB
  rw [hm, hl, hy]
  simp only [Bool.true_and]
  rfl
theorem settled_ask (u : PU) : Settled (askU u) := rfl
theorem settled_tick (hl : litU u = true) : Settled (tickU u) := by unfold tickU; rw [if_pos hl]; rfl
theorem settledN (hl : litU u = true) (hs : Settled u) : ∀ n, Settled (tickN n u)
  | 0 => hs
  | n + 1 => settled_tick (by rw [lit_keep]; exact hl)
theorem step_sig (u : PU) : (stepU u).sig = u.sig := by
  unfold stepU paintU nextU oneU
  repeat' split
  all_goals rfl
theorem stat_bit {x y : Int} (hx : x = 0 ∨ x = 1) (hy : y = 0 ∨ y = 2) : band .u8 (x + y) 2 = y := by rcases hx with rfl | rfl <;> rcases hy with rfl | rfl <;> decide
/-- A cycle asks where the signal comes on. -/
theorem rise_at (hl : litU u = true) (hs : Settled u) : (band .u8 (tickV u) 2 = 0) ↔ ¬ (sigU (tickU u) = true ∧ sigU u = false) := by
  have hv : tickV u = stepV u + askV (stepU u) := by unfold tickV; rw [if_pos hl]
  have ht : sigU (tickU u) = sigU (stepU u) := by unfold tickU; rw [if_pos hl]; rfl
  rw [hv, stat_bit (stepV_one _) (askV_two _), ht, ← show (stepU u).sig = sigU u from (step_sig u).trans hs]
  unfold askV
  split
  · rename_i h; simp [h.1, h.2]
  · rename_i h; simp [h]
def cntR (u : PU) (i : Nat) : Nat := sumTo (fun k => if band .u8 (tickV (tickN k u)) 2 = 0 then 0 else 1) i
theorem cntR_le (u : PU) (i : Nat) : cntR u i ≤ i := cnt_le _ (fun k => by split <;> omega) i
theorem cntR_hit {i : Nat} (h : band .u8 (tickV (tickN i u)) 2 ≠ 0) : cntR u (i + 1) = cntR u i + 1 := by
  show sumTo _ i + (if band .u8 (tickV (tickN i u)) 2 = 0 then 0 else 1) = _
  rw [if_neg h]; rfl
theorem cntR_miss {i : Nat} (h : band .u8 (tickV (tickN i u)) 2 = 0) : cntR u (i + 1) = cntR u i := by
  show sumTo _ i + (if band .u8 (tickV (tickN i u)) 2 = 0 then 0 else 1) = _
  rw [if_pos h]; rfl
def riseP (a b c d : Bool) (L q : Nat) : Nat := bif posSig a b c d L q && !posSig a b c d L ((q + 17555) % 17556) then 1 else 0
theorem line_sum (a b c d : Bool) (L : Nat) {i : Nat} (hi : i < 154) : sumTo (fun j => riseP a b c d L (i * 114 + j)) 114 = rlc a b c d (Nat.blt i 144) (Nat.beq i L) (Nat.blt ((i + 153) % 154) 144) (Nat.beq ((i + 153) % 154) L) := by
  rw [← rl_eq]
  refine sumTo_congr fun j hj => ?_
  unfold riseP posSig
  rw [show (i * 114 + j) / 114 = i by omega, show (i * 114 + j) % 114 = j by omega]
  rcases Nat.eq_zero_or_pos j with rfl | hp
  · rw [show (i * 114 + 0 + 17555) % 17556 / 114 = (i + 153) % 154 by omega, show (i * 114 + 0 + 17555) % 17556 % 114 = 113 by omega]; rfl
  · rw [show (i * 114 + j + 17555) % 17556 / 114 = i by omega, show (i * 114 + j + 17555) % 17556 % 114 = j - 1 by omega, (Bool.eq_false_iff.2 fun h9 => (by have := Nat.eq_of_beq_eq_true h9; omega : False) : Nat.beq j 0 = false)]; rfl
theorem cntR_all (h : u.Ok) (hl : litU u = true) (hs : Settled u) : cntR u 17556 = sumTo (fun i => rlc (bitA u 8) (bitA u 16) (bitA u 32) (bitA u 64) (Nat.blt i 144) (Nat.beq i (u.r 5).toNat) (Nat.blt ((i + 153) % 154) 144) (Nat.beq ((i + 153) % 154) (u.r 5).toNat)) 154 := by
  rw [← sumTo_congr fun i hi => line_sum (bitA u 8) (bitA u 16) (bitA u 32) (bitA u 64) (u.r 5).toNat hi]
  rw [← lap h hl (riseP (bitA u 8) (bitA u 16) (bitA u 32) (bitA u 64) (u.r 5).toNat) 1]
  refine sumTo_congr fun k _ => ?_
  have hk := tickN_ok h k
  have hk1 := tickN_ok h (k + 1)
  have hlk : litU (tickN k u) = true := by rw [lit_keep]; exact hl
  have hlk1 : litU (tickN (k + 1) u) = true := by rw [lit_keep]; exact hl
  have hr : ∀ n j, (tickN n u).r j = u.r j := fun n j => by unfold PU.r; rw [(tickN_keep u n).2.2]
  have e0 : sigU (tickN k u) = posSig (bitA u 8) (bitA u 16) (bitA u 32) (bitA u 64) (u.r 5).toNat (posU (tickN k u)) := by
    rw [sig_pos hk hlk]; unfold bitA; rw [hr, hr]
  have e1 : sigU (tickN (k + 1) u) = posSig (bitA u 8) (bitA u 16) (bitA u 32) (bitA u 64) (u.r 5).toNat (posU (tickN (k + 1) u)) := by
    rw [sig_pos hk1 hlk1]; unfold bitA; rw [hr, hr]
  have hp : (posU (tickN (k + 1) u) + 17555) % 17556 = posU (tickN k u) := by
    have h1 := posN h hl k
    have h2 := posN h hl (k + 1)
    omega
  unfold riseP
  rw [hp, ← e0, ← e1]
  have := rise_at hlk (settledN hl hs k)
  have ht : tickU (tickN k u) = tickN (k + 1) u := rfl
  rw [ht] at this
  by_cases c : band .u8 (tickV (tickN k u)) 2 = 0
  · rw [if_pos c]
    have h9 := this.1 c
    cases h1 : sigU (tickN (k + 1) u) <;> cases h2 : sigU (tickN k u) <;> simp_all
  · rw [if_neg c]
    have h9 := Classical.not_not.1 fun h9 => c (this.2 h9)
    rw [h9.1, h9.2]; rfl
end
/-! ### what is written -/
def asksS (l r : Int) : PU := askU { zeroU with R := [128, r, 0, 0, 0, l, 0, 0, 0, 0, 0, 0] }
theorem how_bits {y : Int} (hy : 0 ≤ y ∧ y < 256) : ∃ h : Nat, h < 16 ∧ band .u8 y 120 = 8 * (h : Int) ∧ (band .u8 (band .u8 y 120) 8 != 0) = Nat.beq (h % 2) 1 ∧ (band .u8 (band .u8 y 120) 16 != 0) = Nat.beq (h / 2 % 2) 1 ∧ (band .u8 (band .u8 y 120) 32 != 0) = Nat.beq (h / 4 % 2) 1 ∧ (band .u8 (band .u8 y 120) 64 != 0) = Nat.beq (h / 8 % 2) 1 := by
  refine ⟨(band .u8 y 120 / 8).toNat, ?_⟩
  exact byte_all (p := fun y => (band .u8 y 120 / 8).toNat < 16 ∧ band .u8 y 120 = 8 * (((band .u8 y 120 / 8).toNat : Nat) : Int) ∧ (band .u8 (band .u8 y 120) 8 != 0) = Nat.beq ((band .u8 y 120 / 8).toNat % 2) 1 ∧ (band .u8 (band .u8 y 120) 16 != 0) = Nat.beq ((band .u8 y 120 / 8).toNat / 2 % 2) 1 ∧ (band .u8 (band .u8 y 120) 32 != 0) = Nat.beq ((band .u8 y 120 / 8).toNat / 4 % 2) 1 ∧ (band .u8 (band .u8 y 120) 64 != 0) = Nat.beq ((band .u8 y 120 / 8).toNat / 8 % 2) 1) (by decide +kernel) hy.1 hy.2
theorem asks3 (l y : Int) : writeU (writeU (writeU zeroU 65349 l) 65345 y) 65344 128 = asksS l (band .u8 y 120) := by
  have e1 : writeU zeroU 65349 l = { zeroU with R := [0, 0, 0, 0, 0, l, 0, 0, 0, 0, 0, 0] } := by
    show askU (offU (litU zeroU) { zeroU with R := zeroU.R.set 5 l }) = _
    have h0 : litU zeroU = false := rfl
    rw [h0, off_no (.inl rfl)]; rfl
  have e2 : writeU { zeroU with R := [0, 0, 0, 0, 0, l, 0, 0, 0, 0, 0, 0] } 65345 y = { zeroU with R := [0, band .u8 y 120, 0, 0, 0, l, 0, 0, 0, 0, 0, 0] } := by
    show askU (offU (litU { zeroU with R := [0, 0, 0, 0, 0, l, 0, 0, 0, 0, 0, 0] }) { zeroU with R := [0, band .u8 y 120, 0, 0, 0, l, 0, 0, 0, 0, 0, 0] }) = _
    have h0 : litU { zeroU with R := [0, 0, 0, 0, 0, l, 0, 0, 0, 0, 0, 0] } = false := rfl
    rw [h0, off_no (.inl rfl)]; rfl
  rw [e1, e2]
  show askU (offU (litU { zeroU with R := [0, band .u8 y 120, 0, 0, 0, l, 0, 0, 0, 0, 0, 0] }) { zeroU with R := [128, band .u8 y 120, 0, 0, 0, l, 0, 0, 0, 0, 0, 0] }) = _
  have h0 : litU { zeroU with R := [0, band .u8 y 120, 0, 0, 0, l, 0, 0, 0, 0, 0, 0] } = false := rfl
  rw [h0, off_no (.inl rfl)]; rfl
theorem asks_ok {l y : Int} (hl : 0 ≤ l ∧ l < 256) (hy : 0 ≤ y ∧ y < 256) : (asksS l (band .u8 y 120)).Ok := by
  rw [← asks3 l y]
  exact ((zeroU_ok.write (a := 65349) hl).write (a := 65345) hy).write (a := 65344) (x := 128) (by decide)
theorem asks_count {l y : Int} (hl : 0 ≤ l ∧ l < 256) (hy : 0 ≤ y ∧ y < 256) (n : Nat) : ∃ h : Nat, h < 16 ∧ band .u8 y 120 = 8 * (h : Int) ∧ good h l.toNat (cntR (tickN n (asksS l (band .u8 y 120))) 17556) := by
  obtain ⟨h, hh, h1, b1, b2, b3, b4⟩ := how_bits hy
  refine ⟨h, hh, h1, ?_⟩
  have hlit : litU (asksS l (band .u8 y 120)) = true := rfl
  have hlit2 : litU (tickN n (asksS l (band .u8 y 120))) = true := by rw [lit_keep]; exact hlit
  rw [cntR_all (tickN_ok (asks_ok hl hy) n) hlit2 (settledN hlit (settled_ask _) n)]
  have hr : ∀ j, (tickN n (asksS l (band .u8 y 120))).r j = (asksS l (band .u8 y 120)).r j := fun j => by unfold PU.r; rw [(tickN_keep _ n).2.2]
  have h5 : (tickN n (asksS l (band .u8 y 120))).r 5 = l := hr 5
  have h11 : (tickN n (asksS l (band .u8 y 120))).r 1 = band .u8 y 120 := hr 1
  unfold bitA
  rw [h5, h11, b1, b2, b3, b4]
  exact good_all hh
end Go.Proofs.Ytjceoaomkbabmaa
