/- The unit that makes the picture: how it goes on, cycle by cycle. Plain definitions and laws, no program. -/
import Derived.Test.YtjceoaomkbabmaaUnitW
namespace Go.Proofs.Ytjceoaomkbabmaa
open Go Go.VV

def tickN : Nat → PU → PU
  | 0, u => u
  | n + 1, u => tickU (tickN n u)
def posU (u : PU) : Nat := u.line.toNat * 114 + u.dot.toNat
def modeP (p : Nat) : Nat := bif Nat.ble 144 (p / 114) then 1 else bif Nat.blt (p % 114) 20 then 2 else bif Nat.blt (p % 114) 63 then 3 else 0
def onU (x : Int) : PU := writeU zeroU 65344 x
section
variable {u : PU}
theorem tickN_ok (h : u.Ok) : ∀ n, (tickN n u).Ok
  | 0 => h
  | n + 1 => (tickN_ok h n).tick
theorem tickN_add (u : PU) (a : Nat) : ∀ b, tickN b (tickN a u) = tickN (a + b) u
  | 0 => rfl
  | b + 1 => congrArg tickU (tickN_add u a b)
theorem step_keep (u : PU) : (stepU u).V = u.V ∧ (stepU u).O = u.O ∧ (stepU u).R = u.R := by
  unfold stepU paintU nextU oneU
  repeat' split
  all_goals exact ⟨rfl, rfl, rfl⟩
theorem tick_keep (u : PU) : (tickU u).V = u.V ∧ (tickU u).O = u.O ∧ (tickU u).R = u.R := by
  unfold tickU
  split
  · exact step_keep u
  · exact ⟨rfl, rfl, rfl⟩
theorem tickN_keep (u : PU) : ∀ n, (tickN n u).V = u.V ∧ (tickN n u).O = u.O ∧ (tickN n u).R = u.R
  | 0 => ⟨rfl, rfl, rfl⟩
  | n + 1 => by
    obtain ⟨h1, h2, h3⟩ := tickN_keep u n
    obtain ⟨k1, k2, k3⟩ := tick_keep (tickN n u)
    exact ⟨k1.trans h1, k2.trans h2, k3.trans h3⟩
theorem lit_keep (u : PU) (n : Nat) : litU (tickN n u) = litU u := by unfold litU PU.r; rw [(tickN_keep u n).2.2]
theorem lit_step (u : PU) : litU (stepU u) = litU u := by unfold litU PU.r; rw [(step_keep u).2.2]
theorem step_pos (h : u.Ok) : posU (stepU u) = (posU u + 1) % 17556 := by
  have h1 := h.line; have h2 := h.dot; have h3 := h.wf.line; have h4 := h.wf.dot
  unfold posU
  by_cases c1 : u.dot = 62 ∧ u.line < 144
  · rw [step_paint c1.1 c1.2]
    simp only [paintU, oneU]; omega
  · by_cases c2 : u.dot = 113
    · rw [step_next c2]
      unfold nextU oneU
      dsimp only
      split
      · dsimp only; omega
      · split <;> dsimp only <;> omega
    · rw [step_one c1 c2]
      simp only [oneU]; omega
theorem tick_pos (h : u.Ok) (hl : litU u = true) : posU (tickU u) = (posU u + 1) % 17556 := by
  unfold tickU; rw [if_pos hl]; exact step_pos h
theorem posN (h : u.Ok) (hl : litU u = true) : ∀ n, posU (tickN n u) = (posU u + n) % 17556
  | 0 => by
    have h1 := h.line; have h2 := h.dot; have h3 := h.wf.line; have h4 := h.wf.dot
    show posU u = _
    unfold posU; omega
  | n + 1 => by
    show posU (tickU (tickN n u)) = _
    rw [tick_pos (tickN_ok h n) (by rw [lit_keep]; exact hl), posN h hl n]; omega
theorem pos_lt (h : u.Ok) : posU u < 17556 := by
  have h1 := h.line; have h2 := h.dot; have h3 := h.wf.line; have h4 := h.wf.dot
  unfold posU; omega
theorem line_pos (h : u.Ok) : u.line = ((posU u / 114 : Nat) : Int) := by
  have h1 := h.line; have h2 := h.dot; have h3 := h.wf.line; have h4 := h.wf.dot
  unfold posU; omega
theorem dot_pos (h : u.Ok) : u.dot = ((posU u % 114 : Nat) : Int) := by
  have h1 := h.line; have h2 := h.dot; have h3 := h.wf.line; have h4 := h.wf.dot
  unfold posU; omega
theorem modeP_eq (p : Nat) : modeP p = if 144 ≤ p / 114 then 1 else if p % 114 < 20 then 2 else if p % 114 < 63 then 3 else 0 := by
  unfold modeP
  simp only [cond_eq_ite, Nat.ble_eq, Nat.blt_eq]
theorem mode_pos (h : u.Ok) (hl : litU u = true) : modeU u = ((modeP (posU u) : Nat) : Int) := by
  rw [modeP_eq]
  unfold modeU
  rw [if_pos hl, line_pos h, dot_pos h]
  by_cases c1 : 144 ≤ posU u / 114
  · rw [if_pos (by omega), if_pos c1]; rfl
  · rw [if_neg (by omega), if_neg c1]
    by_cases c2 : posU u % 114 < 20
    · rw [if_pos (by omega), if_pos c2]; rfl
    · rw [if_neg (by omega), if_neg c2]
      by_cases c3 : posU u % 114 < 63
      · rw [if_pos (by omega), if_pos c3]; rfl
      · rw [if_neg (by omega), if_neg c3]; rfl
end
/-! ### sums over a picture -/
def sumTo (f : Nat → Nat) : Nat → Nat
  | 0 => 0
  | n + 1 => sumTo f n + f n
theorem sumTo_add (f : Nat → Nat) (a : Nat) : ∀ b, sumTo f (a + b) = sumTo f a + sumTo (fun k => f (a + k)) b
  | 0 => rfl
  | b + 1 => by
    show sumTo f (a + b) + f (a + b) = _
    rw [sumTo_add f a b]; simp only [sumTo]; omega
theorem sumTo_congr {f g : Nat → Nat} : ∀ {n : Nat}, (∀ k, k < n → f k = g k) → sumTo f n = sumTo g n
  | 0, _ => rfl
  | n + 1, h => by
    show sumTo f n + f n = sumTo g n + g n
    rw [sumTo_congr fun k hk => h k (Nat.lt_succ_of_lt hk), h n (Nat.lt_succ_self n)]
theorem sumTo_turn {N : Nat} {f : Nat → Nat} (hf : ∀ k, f (N + k) = f k) (a : Nat) : sumTo (fun k => f (a + k)) N = sumTo f N := by
  have h1 := sumTo_add f a N
  have h2 := sumTo_add f N a
  rw [sumTo_congr (f := fun k => f (N + k)) (g := f) fun k _ => hf k, Nat.add_comm N a] at h2
  omega
theorem sumTo_mul (f : Nat → Nat) (b : Nat) : ∀ a, sumTo f (a * b) = sumTo (fun i => sumTo (fun j => f (i * b + j)) b) a
  | 0 => by rw [Nat.zero_mul]; rfl
  | a + 1 => by
    rw [Nat.add_mul, Nat.one_mul, sumTo_add, sumTo_mul f b a]; rfl
/-- How often it holds in one picture, from anywhere on. -/
theorem lap {u : PU} (h : u.Ok) (hl : litU u = true) (f : Nat → Nat) (a : Nat) : sumTo (fun k => f (posU (tickN (k + a) u))) 17556 = sumTo (fun i => sumTo (fun j => f (i * 114 + j)) 114) 154 := by
  have h1 : sumTo (fun k => f (posU (tickN (k + a) u))) 17556 = sumTo (fun k => (fun m => f (m % 17556)) ((posU u + a) + k)) 17556 :=
    sumTo_congr fun k _ => by rw [posN h hl, show posU u + (k + a) = posU u + a + k by omega]
  rw [h1, sumTo_turn (f := fun m => f (m % 17556)) fun k => by rw [Nat.add_mod_left]]
  rw [← sumTo_mul f 114 154]
  exact sumTo_congr fun k hk => by rw [Nat.mod_eq_of_lt hk]
/-! ### how often, by mode -/
def cntM (m : Nat) (u : PU) (i : Nat) : Nat := sumTo (fun k => if modeU (tickN (k + 1) u) = (m : Int) then 1 else 0) i
def cntB (u : PU) (i : Nat) : Nat := sumTo (fun k => if band .u8 (tickV (tickN k u)) 1 = 0 then 0 else 1) i
def mC (u : PU) (i : Nat) : List Value := [.int .i64 (cntM 0 u i), .int .i64 (cntM 1 u i), .int .i64 (cntM 2 u i), .int .i64 (cntM 3 u i)]
theorem cnt_le (f : Nat → Nat) (hf : ∀ k, f k ≤ 1) : ∀ n, sumTo f n ≤ n
  | 0 => Nat.le_refl _
  | n + 1 => by have h1 := cnt_le f hf n; have h2 := hf n; show sumTo f n + f n ≤ n + 1; omega
theorem cntM_le (m : Nat) (u : PU) (i : Nat) : cntM m u i ≤ i := cnt_le _ (fun k => by split <;> omega) i
theorem cntB_le (u : PU) (i : Nat) : cntB u i ≤ i := cnt_le _ (fun k => by split <;> omega) i
theorem mC_at (u : PU) (i : Nat) {m : Nat} (hm : m < 4) : (mC u i)[m]? = some (.int .i64 (cntM m u i)) := by
  rcases (show m = 0 ∨ m = 1 ∨ m = 2 ∨ m = 3 by omega) with rfl | rfl | rfl | rfl <;> rfl
theorem cntM_hit {u : PU} {i m : Nat} (h : modeU (tickN (i + 1) u) = (m : Int)) : cntM m u (i + 1) = cntM m u i + 1 := by
  show sumTo _ i + (if modeU (tickN (i + 1) u) = (m : Int) then 1 else 0) = _
  rw [if_pos h]; rfl
theorem cntM_miss {u : PU} {i m : Nat} (h : modeU (tickN (i + 1) u) ≠ (m : Int)) : cntM m u (i + 1) = cntM m u i := by
  show sumTo _ i + (if modeU (tickN (i + 1) u) = (m : Int) then 1 else 0) = _
  rw [if_neg h]; rfl
theorem mC_put (u : PU) (i : Nat) {m : Nat} (hm : modeU (tickN (i + 1) u) = (m : Int)) : putL (mC u i) m [.int .i64 ((cntM m u i : Int) + 1)] = mC u (i + 1) := by
  have hr := mode_range (tickN (i + 1) u)
  unfold mC
  rcases (show m = 0 ∨ m = 1 ∨ m = 2 ∨ m = 3 by omega) with rfl | rfl | rfl | rfl
  · rw [cntM_hit hm, cntM_miss (m := 1) (by omega), cntM_miss (m := 2) (by omega), cntM_miss (m := 3) (by omega)]; rfl
  · rw [cntM_hit hm, cntM_miss (m := 0) (by omega), cntM_miss (m := 2) (by omega), cntM_miss (m := 3) (by omega)]; rfl
  · rw [cntM_hit hm, cntM_miss (m := 1) (by omega), cntM_miss (m := 0) (by omega), cntM_miss (m := 3) (by omega)]; rfl
  · rw [cntM_hit hm, cntM_miss (m := 1) (by omega), cntM_miss (m := 2) (by omega), cntM_miss (m := 0) (by omega)]; rfl
theorem modes_all : sumTo (fun i => sumTo (fun j => bif Nat.beq (modeP (i * 114 + j)) 0 then 1 else 0) 114) 154 = 7344 ∧ sumTo (fun i => sumTo (fun j => bif Nat.beq (modeP (i * 114 + j)) 1 then 1 else 0) 114) 154 = 1140 ∧
    sumTo (fun i => sumTo (fun j => bif Nat.beq (modeP (i * 114 + j)) 2 then 1 else 0) 114) 154 = 2880 ∧ sumTo (fun i => sumTo (fun j => bif Nat.beq (modeP (i * 114 + j)) 3 then 1 else 0) 114) 154 = 6192 ∧
    sumTo (fun i => sumTo (fun j => bif Nat.beq (i * 114 + j) 16415 then 1 else 0) 114) 154 = 1 := by decide +kernel
theorem cntM_all {u : PU} (h : u.Ok) (hl : litU u = true) (m : Nat) : cntM m u 17556 = sumTo (fun i => sumTo (fun j => bif Nat.beq (modeP (i * 114 + j)) m then 1 else 0) 114) 154 := by
  rw [← lap h hl (fun p => bif Nat.beq (modeP p) m then 1 else 0) 1]
  refine sumTo_congr fun k _ => ?_
  rw [mode_pos (tickN_ok h _) (by rw [lit_keep]; exact hl)]
  by_cases c : modeP (posU (tickN (k + 1) u)) = m
  · rw [if_pos (by rw [c]), (Nat.beq_eq.symm ▸ c : Nat.beq (modeP (posU (tickN (k + 1) u))) m = true)]; rfl
  · rw [if_neg (by omega), (Bool.eq_false_iff.2 fun h9 => c (Nat.eq_of_beq_eq_true h9) : Nat.beq (modeP (posU (tickN (k + 1) u))) m = false)]; rfl
theorem mC_all {u : PU} (h : u.Ok) (hl : litU u = true) : mC u 17556 = [.int .i64 7344, .int .i64 1140, .int .i64 2880, .int .i64 6192] := by
  unfold mC
  rw [cntM_all h hl, cntM_all h hl, cntM_all h hl, cntM_all h hl, modes_all.1, modes_all.2.1, modes_all.2.2.1, modes_all.2.2.2.1]; rfl
theorem blank_bit {x y : Int} (hx : x = 0 ∨ x = 1) (hy : y = 0 ∨ y = 2) : band .u8 (x + y) 1 = x := by rcases hx with rfl | rfl <;> rcases hy with rfl | rfl <;> decide
theorem cntB_all {u : PU} (h : u.Ok) (hl : litU u = true) : cntB u 17556 = 1 := by
  rw [← modes_all.2.2.2.2, ← lap h hl (fun p => bif Nat.beq p 16415 then 1 else 0) 0]
  refine sumTo_congr fun k _ => ?_
  have hk := tickN_ok h k
  have hd := dot_pos hk
  have hn := line_pos hk
  have hv : tickV (tickN k u) = stepV (tickN k u) + askV (stepU (tickN k u)) := by unfold tickV; rw [if_pos (by rw [lit_keep]; exact hl)]
  rw [hv, blank_bit (stepV_one _) (askV_two _), Nat.add_zero]
  unfold stepV
  by_cases c : posU (tickN k u) = 16415
  · rw [if_pos (show (tickN k u).dot = 113 ∧ (tickN k u).line = 143 by omega), c]; rfl
  · rw [if_neg (show ¬ ((tickN k u).dot = 113 ∧ (tickN k u).line = 143) by omega), (Bool.eq_false_iff.2 fun h9 => c (Nat.eq_of_beq_eq_true h9) : Nat.beq (posU (tickN k u)) 16415 = false)]; rfl
theorem lap_same {u : PU} (h : u.Ok) (hl : litU u = true) : (tickN 17556 u).line = u.line ∧ (tickN 17556 u).dot = u.dot := by
  have h1 := posN h hl 17556
  have h2 := pos_lt h
  have h3 := tickN_ok h 17556
  rw [line_pos h3, dot_pos h3, line_pos h, dot_pos h]
  omega
theorem cntB_hit {u : PU} {i : Nat} (h : band .u8 (tickV (tickN i u)) 1 ≠ 0) : cntB u (i + 1) = cntB u i + 1 := by
  show sumTo _ i + (if band .u8 (tickV (tickN i u)) 1 = 0 then 0 else 1) = _
  rw [if_neg h]; rfl
theorem cntB_miss {u : PU} {i : Nat} (h : band .u8 (tickV (tickN i u)) 1 = 0) : cntB u (i + 1) = cntB u i := by
  show sumTo _ i + (if band .u8 (tickV (tickN i u)) 1 = 0 then 0 else 1) = _
  rw [if_pos h]; rfl
/-! ### switched on -/
theorem onU_ok {x : Int} (hx : 0 ≤ x ∧ x < 256) : (onU x).Ok := zeroU_ok.write hx
theorem onU_as (x : Int) : onU x = askU { zeroU with R := [x, 0, 0, 0, 0, 0, 0, 0, 0, 0, 0, 0] } := by
  show askU (offU (litU zeroU) { zeroU with R := zeroU.R.set 0 x }) = _
  have h0 : litU zeroU = false := rfl
  rw [h0, off_no (.inl rfl)]; rfl
theorem onU_lit {x : Int} (hx : 128 ≤ x) : litU (onU x) = true := by rw [onU_as x]; exact decide_eq_true hx
theorem onU_pos (x : Int) : posU (onU x) = 0 := by rw [onU_as x]; rfl
theorem awake_pos : posU (tickN 114 (onU 128)) = 114 := by rw [posN (onU_ok (by decide)) (onU_lit (by decide)), onU_pos 128]
theorem awake_line : (tickN 114 (onU 128)).line = 1 := by rw [line_pos (tickN_ok (onU_ok (by decide)) _), awake_pos]; rfl
theorem awake_dot : (tickN 114 (onU 128)).dot = 0 := by rw [dot_pos (tickN_ok (onU_ok (by decide)) _), awake_pos]; rfl
theorem awake_mode : modeU (tickN 114 (onU 128)) = 2 := by rw [mode_pos (tickN_ok (onU_ok (by decide)) _) (by rw [lit_keep]; exact onU_lit (by decide)), awake_pos]; rfl
theorem awake_read : readU (tickN 114 (onU 128)) 65348 = 1 := by
  rw [read_no ⟨by decide, by decide⟩]
  show (tickN 114 (onU 128)).line % 256 = 1
  rw [awake_line]; rfl
theorem ctl_byte {y : Int} (hy : 0 ≤ y ∧ y < 256) : 128 ≤ bor .u8 128 (band .u8 y 125) ∧ bor .u8 128 (band .u8 y 125) < 256 :=
  byte_all (p := fun y => 128 ≤ bor .u8 128 (band .u8 y 125) ∧ bor .u8 128 (band .u8 y 125) < 256) (by decide +kernel) hy.1 hy.2
end Go.Proofs.Ytjceoaomkbabmaa
