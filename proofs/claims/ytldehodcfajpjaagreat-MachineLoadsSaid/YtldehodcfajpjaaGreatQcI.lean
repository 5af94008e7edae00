/- What a cycle did on the bus. Plain definitions, no program. -/
import Derived.Test.YtldehodcfajpjaaGreatQcH
set_option linter.unusedSimpArgs false
set_option linter.unusedVariables false
set_option maxRecDepth 100000
namespace Go.Proofs.YtldehodcfajpjaaGreat
open Go Go.VV
def b2i (c : Bool) : Int := if c = true then 1 else 0
def fl (z n h c : Bool) : Int := (if z = true then 128 else 0) + (if n = true then 64 else 0) + (if h = true then 32 else 0) + (if c = true then 16 else 0)
def zF (f : Int) : Bool := f / 128 == 1
def nF (f : Int) : Bool := f / 64 % 2 == 1
def hF (f : Int) : Bool := f / 32 % 2 == 1
def cF (f : Int) : Bool := f / 16 % 2 == 1
def addR (a b : Int) (c : Bool) : Int := (a + b + b2i c) % 256
def addF (a b : Int) (c : Bool) : Int := fl (addR a b c == 0) false (decide (15 < a % 16 + b % 16 + b2i c)) (decide (255 < a + b + b2i c))
def subR (a b : Int) (c : Bool) : Int := (a - b - b2i c) % 256
def subF (a b : Int) (c : Bool) : Int := fl (subR a b c == 0) true (decide (a % 16 < b % 16 + b2i c)) (decide (a < b + b2i c))
def logF (k : Int) (r : Int) : Int := fl (r == 0) false (k == 0) false
def incR (a : Int) : Int := (a + 1) % 256
def incF (a f : Int) : Int := fl (incR a == 0) false (a % 16 == 15) (cF f)
def decR (a : Int) : Int := (a - 1) % 256
def decF (a f : Int) : Int := fl (decR a == 0) true (a % 16 == 0) (cF f)
def daaC (a f : Int) : Bool := cF f || (!nF f && decide (153 < a))
def daaL (a f : Int) : Bool := hF f || (!nF f && decide (9 < a % 16))
def fg (x : Int) (b : Bool) : Int := if b = true then x else 0
def daaB (a f : Int) : Int := fg 6 (daaL a f) + fg 96 (daaC a f)
def daaR (a f : Int) : Int := if nF f = true then (a - daaB a f) % 256 else (a + daaB a f) % 256
def daaF (a f : Int) : Int := fl (daaR a f == 0) (nF f) false (daaC a f)
def turnO (k a : Int) : Bool := if k % 8 = 6 then false else if k % 8 = 0 ∨ k % 8 = 2 ∨ k % 8 = 4 then a / 128 == 1 else a % 2 == 1
def turnR (k a f : Int) : Int :=
 if k % 8 = 0 then a * 2 % 256 + a / 128 else if k % 8 = 1 then a / 2 + a % 2 * 128 else if k % 8 = 2 then a * 2 % 256 + b2i (cF f) else if k % 8 = 3 then a / 2 + b2i (cF f) * 128
 else if k % 8 = 4 then a * 2 % 256 else if k % 8 = 5 then a / 2 + a / 128 * 128 else if k % 8 = 6 then a % 16 * 16 + a / 16 else a / 2
def turnF (k a f : Int) : Int := fl (turnR k a f == 0) false false (turnO k a)
def bitF (n a f : Int) : Int := fl (a / 2 ^ (n % 8).toNat % 2 == 0) false true (cF f)
def add16R (a b : Int) : Int := (a + b) % 65536
def add16F (a b f : Int) : Int := fl (zF f) false (decide (4095 < a % 4096 + b % 4096)) (decide (65535 < a + b))
def s8 (e : Int) : Int := if 127 < e then e - 256 else e
def shR (a e : Int) : Int := (a + s8 e) % 65536
def shF (a e : Int) : Int := fl false false (decide (15 < a % 16 + e % 16)) (decide (255 < a % 256 + e))
theorem or_zhc (z h c : Bool) : bor .u8 (bor .u8 (fg 128 z) (fg 32 h)) (fg 16 c) = fl z false h c := by cases z <;> cases h <;> cases c <;> decide
theorem or_znhc (z h c : Bool) : bor .u8 (bor .u8 (bor .u8 (fg 128 z) 64) (fg 32 h)) (fg 16 c) = fl z true h c := by cases z <;> cases h <;> cases c <;> decide
theorem or_zh (z : Bool) : bor .u8 (fg 128 z) 32 = fl z false true false := by cases z <;> decide
theorem or_z (z : Bool) : fg 128 z = fl z false false false := by cases z <;> decide
theorem or_zhC (z c : Bool) : bor .u8 (bor .u8 (fg 128 z) 32) (fg 16 c) = fl z false true c := by cases z <;> cases c <;> decide
theorem or_znc (z n c : Bool) : bor .u8 (bor .u8 (fg 128 z) (fg 64 n)) (fg 16 c) = fl z n false c := by cases z <;> cases n <;> cases c <;> decide
theorem or_zc (z c : Bool) : bor .u8 (fg 128 z) (fg 16 c) = fl z false false c := by cases z <;> cases c <;> decide
theorem or_hc (h c : Bool) : bor .u8 (fg 32 h) (fg 16 c) = fl false false h c := by cases h <;> cases c <;> decide
theorem bit_fg (x k : Int) (v : Int) : v / k % 2 * x = fg x (v / k % 2 == 1) := by
 unfold fg
 rcases (show v / k % 2 = 0 ∨ v / k % 2 = 1 by omega) with h | h <;> rw [h] <;> simp
theorem cF_fg (f : Int) : f / 16 % 2 * 16 = fg 16 (cF f) := bit_fg 16 16 f
theorem nF_fg (f : Int) : f / 64 % 2 * 64 = fg 64 (nF f) := bit_fg 64 64 f
theorem zF_fg {f : Int} (h : 0 ≤ f ∧ f < 256) : f / 128 % 2 * 128 = fg 128 (zF f) := by
 rw [bit_fg 128 128 f]
 unfold zF
 rw [show f / 128 % 2 = f / 128 by omega]
theorem or_Zhc (z h c : Bool) : bor .u8 (bor .u8 (fg 128 z) (fg 32 h)) (fg 16 c) = fl z false h c := or_zhc z h c
theorem s8_wrap {e : Int} (h : 0 ≤ e ∧ e < 256) : IntKind.wrap .i8 e = s8 e :=
 byte_all (p := fun e => IntKind.wrap .i8 e = s8 e) y_A h.1 h.2
theorem band_low (n : Int) (j : Nat) (hj : j < 60) : band .i64 n (2 ^ j - 1 : Nat) = n % (2 ^ j : Nat) := by
 have h1 : 2 ^ j < 2 ^ 60 := Nat.pow_lt_pow_right y_c hj
 have hp : 0 < 2 ^ j := Nat.two_pow_pos j
 have h2 : (BitVec.ofInt 64 n &&& BitVec.ofInt 64 ((2 ^ j - 1 : Nat) : Int)).toNat = (n % (2 ^ j : Nat)).toNat := by
  rw [BitVec.toNat_and, BitVec.toNat_ofInt, BitVec.toNat_ofInt]
  have e1 : (((2 ^ j - 1 : Nat) : Int) % ((2 ^ 64 : Nat) : Int)).toNat = 2 ^ j - 1 := by omega
  rw [e1, Nat.and_two_pow_sub_one_eq_mod]
  obtain ⟨q, hq⟩ : (2 ^ j : Nat) ∣ 2 ^ 64 := Nat.pow_dvd_pow 2 o_m
  have h3 : n % ((2 ^ 64 : Nat) : Int) % ((2 ^ j : Nat) : Int) = n % ((2 ^ j : Nat) : Int) := Int.emod_emod_of_dvd n (by rw [hq]; exact ⟨q, by push_cast; rfl⟩)
  have h4 : 0 ≤ n % ((2 ^ 64 : Nat) : Int) := Int.emod_nonneg _ y_c
  rw [← h3, Int.toNat_emod h4 (Int.natCast_nonneg _), Int.toNat_natCast]
 show IntKind.wrap .i64 ((BitVec.ofInt 64 n &&& BitVec.ofInt 64 ((2 ^ j - 1 : Nat) : Int)).toNat : Int) = _
 rw [h2]
 have h5 : 0 ≤ n % ((2 ^ j : Nat) : Int) := Int.emod_nonneg _ o_m
 have h6 : n % ((2 ^ j : Nat) : Int) < ((2 ^ j : Nat) : Int) := Int.emod_lt_of_pos _ o_m
 rw [Int.toNat_of_nonneg h5]
 exact wrap_i64 o_m o_m
theorem low_8 (n : Int) : band .i64 n 7 = n % 8 := band_low n 3 y_c
theorem shr_byte (n : Int) {a : Int} (h : 0 ≤ a ∧ a < 256) : 0 ≤ a / 2 ^ (n % 8).toNat ∧ a / 2 ^ (n % 8).toNat < 256 := by
 have hp : 0 < (2 : Int) ^ (n % 8).toNat := Int.pow_pos y_c
 refine ⟨Int.ediv_nonneg h.1 o_m, ?_⟩
 exact Int.lt_of_le_of_lt (Int.ediv_le_self _ h.1) h.2
theorem shr_low {a m : Int} (h : 0 ≤ m ∧ m < 8) : shr .u8 a m = a / 2 ^ m.toNat := by
 unfold shr
 rw [show min m.toNat (IntKind.bits .u8) = m.toNat from Nat.min_eq_left (by show m.toNat ≤ 8; omega)]
 exact Int.fdiv_eq_ediv_of_nonneg _ (Int.le_of_lt (Int.pow_pos y_c))
theorem byte_b {p : Int → Bool → Prop} (h : ∀ n : Fin 256, ∀ b : Bool, p (n.val : Int) b) {x : Int} (hx : 0 ≤ x ∧ x < 256) (b : Bool) : p x b := byte_all (p := fun x => p x b) (fun n => h n b) hx.1 hx.2
theorem ne_nF {f : Int} (h : 0 ≤ f ∧ f < 256) : (band .u8 f 64 != 0) = nF f := byte_all (p := fun f => (band .u8 f 64 != 0) = nF f) y_A h.1 h.2
theorem ne_hF {f : Int} (h : 0 ≤ f ∧ f < 256) : (band .u8 f 32 != 0) = hF f := byte_all (p := fun f => (band .u8 f 32 != 0) = hF f) y_A h.1 h.2
theorem ne_cF {f : Int} (h : 0 ≤ f ∧ f < 256) : (band .u8 f 16 != 0) = cF f := byte_all (p := fun f => (band .u8 f 16 != 0) = cF f) y_A h.1 h.2
theorem ne_zF {f : Int} (h : 0 ≤ f ∧ f < 256) : (band .u8 f 128 != 0) = zF f := byte_all (p := fun f => (band .u8 f 128 != 0) = zF f) y_A h.1 h.2
theorem band_c {f : Int} (h : 0 ≤ f ∧ f < 256) : band .u8 f 16 = fg 16 (cF f) := byte_all (p := fun f => band .u8 f 16 = fg 16 (cF f)) y_A h.1 h.2
theorem fg_ne (c : Bool) : (fg 16 c != 0) = c := by cases c <;> decide
theorem or_96 (c : Bool) : bor .u8 (fg 6 c) 96 = fg 6 c + 96 := by cases c <;> decide
theorem shr_c (c : Bool) : shr .u8 (fg 16 c) 4 = b2i c := by cases c <;> decide
theorem or_low {a : Int} (h : 0 ≤ a ∧ a < 256) (c : Bool) : bor .u8 (a * 2 % 256) (b2i c) = a * 2 % 256 + b2i c := byte_b (p := fun a c => bor .u8 (a * 2 % 256) (b2i c) = a * 2 % 256 + b2i c) y_A h c
theorem or_topB {a : Int} (h : 0 ≤ a ∧ a < 256) (c : Bool) : bor .u8 (a / 2) (b2i c * 128) = a / 2 + b2i c * 128 := byte_b (p := fun a c => bor .u8 (a / 2) (b2i c * 128) = a / 2 + b2i c * 128) y_A h c
theorem or_topL {a : Int} (h : 0 ≤ a ∧ a < 256) : bor .u8 (a / 2) (a % 2 * 128) = a / 2 + a % 2 * 128 := byte_all (p := fun a => bor .u8 (a / 2) (a % 2 * 128) = a / 2 + a % 2 * 128) y_A h.1 h.2
theorem or_topH {a : Int} (h : 0 ≤ a ∧ a < 256) : bor .u8 (a / 2) (a / 128 % 2 * 128) = a / 2 + a / 128 * 128 := byte_all (p := fun a => bor .u8 (a / 2) (a / 128 % 2 * 128) = a / 2 + a / 128 * 128) y_A h.1 h.2
theorem rot_1 {a : Int} (h : 0 ≤ a ∧ a < 256) : bor .u8 (shl .u8 a 1) (shr .u8 a 7) = a * 2 % 256 + a / 128 := byte_all (p := fun a => bor .u8 (shl .u8 a 1) (shr .u8 a 7) = a * 2 % 256 + a / 128) y_A h.1 h.2
theorem rot_4 {a : Int} (h : 0 ≤ a ∧ a < 256) : bor .u8 (shl .u8 a 4) (shr .u8 a 4) = a % 16 * 16 + a / 16 := byte_all (p := fun a => bor .u8 (shl .u8 a 4) (shr .u8 a 4) = a % 16 * 16 + a / 16) y_A h.1 h.2
theorem x16 {x : Int} (h : x = 0 ∨ x = 1) : x * 16 = fg 16 (x == 1) := by rcases h with rfl | rfl <;> decide
theorem b2i_le (c : Bool) : 0 ≤ b2i c ∧ b2i c ≤ 1 := by cases c <;> decide
theorem fl_byte (z n h c : Bool) : 0 ≤ fl z n h c ∧ fl z n h c < 256 := by cases z <;> cases n <;> cases h <;> cases c <;> decide
structure CR where
 a : Int
 f : Int
 b : Int
 c : Int
 d : Int
 e : Int
 h : Int
 l : Int
 sp : Int
 pc : Int
deriving DecidableEq
structure CR.Ok (r : CR) : Prop where
 a : 0 ≤ r.a ∧ r.a < 256
 f : 0 ≤ r.f ∧ r.f < 256
 b : 0 ≤ r.b ∧ r.b < 256
 c : 0 ≤ r.c ∧ r.c < 256
 d : 0 ≤ r.d ∧ r.d < 256
 e : 0 ≤ r.e ∧ r.e < 256
 h : 0 ≤ r.h ∧ r.h < 256
 l : 0 ≤ r.l ∧ r.l < 256
 sp : 0 ≤ r.sp ∧ r.sp < 65536
 pc : 0 ≤ r.pc ∧ r.pc < 65536
def cR (r : CR) : List Value := [.int .u8 r.a, .int .u8 r.f, .int .u8 r.b, .int .u8 r.c, .int .u8 r.d, .int .u8 r.e, .int .u8 r.h, .int .u8 r.l, .int .u16 r.sp, .int .u16 r.pc]
def r0 : CR := ⟨0, 0, 0, 0, 0, 0, 0, 0, 0, 0⟩
def getR (r : CR) (n : Int) : Int := if n = 0 then r.b else if n = 1 then r.c else if n = 2 then r.d else if n = 3 then r.e else if n = 4 then r.h else if n = 5 then r.l else if n = 7 then r.a else 0
def setR (r : CR) (n x : Int) : CR :=
 if n = 0 then { r with b := x } else if n = 1 then { r with c := x } else if n = 2 then { r with d := x } else if n = 3 then { r with e := x } else if n = 4 then { r with h := x } else if n = 5 then { r with l := x } else if n = 7 then { r with a := x } else r0
def pairR (r : CR) (n : Int) : Int := if n = 0 then r.b * 256 + r.c else if n = 1 then r.d * 256 + r.e else if n = 2 then r.h * 256 + r.l else if n = 3 then r.sp else if n = 4 then r.a * 256 + r.f / 16 * 16 else 0
def setPR (r : CR) (n x : Int) : CR :=
 if n = 0 then { r with b := x / 256, c := x % 256 } else if n = 1 then { r with d := x / 256, e := x % 256 } else if n = 2 then { r with h := x / 256, l := x % 256 } else if n = 3 then { r with sp := x }
 else if n = 4 then { r with a := x / 256, f := x % 256 / 16 * 16 } else r0
def isR (r : CR) (n : Int) : Bool := if n = 0 then !zF r.f else if n = 1 then zF r.f else if n = 2 then !cF r.f else if n = 3 then cF r.f else n == 4
def atL (rb : Nat) : List Value := [.pointer (some ⟨rb, 2, none⟩), .pointer (some ⟨rb, 3, none⟩), .pointer (some ⟨rb, 4, none⟩), .pointer (some ⟨rb, 5, none⟩), .pointer (some ⟨rb, 6, none⟩), .pointer (some ⟨rb, 7, none⟩), .pointer none, .pointer (some ⟨rb, 0, none⟩)]
def atV (rb : Nat) (n : Int) : Value := if n < 0 ∨ 8 ≤ n then .pointer none else (atL rb).getD n.toNat (.pointer none)
def NoR (n : Int) : Prop := n < 0 ∨ n = 6 ∨ 8 ≤ n
theorem reg_cases (n : Int) : n = 0 ∨ n = 1 ∨ n = 2 ∨ n = 3 ∨ n = 4 ∨ n = 5 ∨ n = 7 ∨ NoR n := by unfold NoR; omega
theorem atV_no {n : Int} (h : NoR n) (rb : Nat) : atV rb n = .pointer none := by
 unfold NoR at h
 rcases h with h | h | h
 ·unfold atV; rw [if_pos (.inl h)]
 ·subst h; rfl
 ·unfold atV; rw [if_pos (.inr h)]
theorem getR_no {n : Int} (h : NoR n) (r : CR) : getR r n = 0 := by unfold NoR at h; unfold getR; repeat rw [if_neg o_m]
theorem setR_no {n : Int} (h : NoR n) (r : CR) (x : Int) : setR r n x = r0 := by unfold NoR at h; unfold setR; repeat rw [if_neg o_m]
theorem pairR_no {n : Int} (h : n < 0 ∨ 4 < n) (r : CR) : pairR r n = 0 := by unfold pairR; repeat rw [if_neg o_m]
theorem setPR_no {n : Int} (h : n < 0 ∨ 4 < n) (r : CR) (x : Int) : setPR r n x = r0 := by unfold setPR; repeat rw [if_neg o_m]
theorem or_wrd {h l : Int} (hh : 0 ≤ h ∧ h < 256) (hl : 0 ≤ l ∧ l < 256) : bor .u16 (h * 256) l = h * 256 + l := by
 have e : ∀ x y : Int, bor .u16 x y = bor .u16 y x := fun x y => by unfold bor; rw [BitVec.or_comm]
 have := or_law hl hh
 rw [e, show shl .u16 h 8 = h * 256 by unfold shl; exact wrap_u16_id (by show 0 ≤ h * 2 ^ 8; omega) (by show h * 2 ^ 8 < 65536; omega)] at this
 omega
theorem clr_nat {x : Nat} (h : x < 65536) : x &&& 65520 = x / 16 * 16 := by
 apply Nat.eq_of_testBit_eq
 intro i
 rw [Nat.testBit_and, show x / 16 * 16 = (x >>> 4) <<< 4 by rw [Nat.shiftRight_eq_div_pow, Nat.shiftLeft_eq], Nat.testBit_shiftLeft, Nat.testBit_shiftRight]
 have hb : ∀ i, i < 16 → Nat.testBit 65520 i = decide (4 ≤ i) := by decide
 by_cases hi : i < 16
 ·rw [hb i hi]
  by_cases h4 : 4 ≤ i
  ·rw [show 4 + (i - 4) = i by omega]; simp [h4]
  ·simp [h4]
 ·have hx : x.testBit i = false := Nat.testBit_lt_two_pow (Nat.lt_of_lt_of_le h (show 2 ^ 16 ≤ 2 ^ i from Nat.pow_le_pow_right y_c o_m))
  rw [show 4 + (i - 4) = i by omega, hx]; simp
theorem clr_15 {x : Int} (h : 0 ≤ x ∧ x < 65536) : bandn .u16 x 15 = x / 16 * 16 := by
 obtain ⟨m, rfl⟩ : ∃ m : Nat, x = m := ⟨x.toNat, y_D⟩
 have h1 : (BitVec.ofInt 16 (m : Int) &&& ~~~BitVec.ofInt 16 15).toNat = m / 16 * 16 := by
  rw [BitVec.toNat_and, show (~~~BitVec.ofInt 16 15).toNat = 65520 by decide, show (BitVec.ofInt 16 (m : Int)).toNat = m by rw [BitVec.toNat_ofInt]; omega]
  exact clr_nat o_m
 show IntKind.wrap .u16 ((BitVec.ofInt 16 (m : Int) &&& ~~~BitVec.ofInt 16 15).toNat : Int) = _
 rw [h1]
 exact (wrap_u16_id o_m o_m).trans o_m
theorem hi_16 {f : Int} (h : 0 ≤ f ∧ f < 256) : band .u8 f 240 = f / 16 * 16 := byte_all (p := fun f => band .u8 f 240 = f / 16 * 16) y_A h.1 h.2
theorem isR_01 {n : Int} (h : n = 0 ∨ n = 1) (r : CR) : (zF r.f == (n == 1)) = isR r n := by
 rcases h with rfl | rfl
 ·show (zF r.f == false) = !zF r.f; cases zF r.f <;> rfl
 ·show (zF r.f == true) = zF r.f; cases zF r.f <;> rfl
theorem isR_23 {n : Int} (h : n = 2 ∨ n = 3) (r : CR) : (cF r.f == (n == 3)) = isR r n := by
 rcases h with rfl | rfl
 ·show (cF r.f == false) = !cF r.f; cases cF r.f <;> rfl
 ·show (cF r.f == true) = cF r.f; cases cF r.f <;> rfl
theorem isR_4 {n : Int} (h0 : n ≠ 0) (h1 : n ≠ 1) (h2 : n ≠ 2) (h3 : n ≠ 3) (r : CR) : (n == 4) = isR r n := by unfold isR; rw [if_neg h0, if_neg h1, if_neg h2, if_neg h3]
def hiO (n : Int) : Nat := if n = 0 then 2 else if n = 1 then 4 else if n = 2 then 6 else 0
def loO (n : Int) : Nat := if n = 0 then 3 else if n = 1 then 5 else if n = 2 then 7 else 1
theorem r0_ok : r0.Ok := ⟨y_eK, y_eK, y_eK, y_eK, y_eK, y_eK, y_eK, y_eK, y_eK, y_eK⟩
theorem getR_byte {r : CR} (h : r.Ok) (n : Int) : 0 ≤ getR r n ∧ getR r n < 256 := by
 have h1 := h.a; have h2 := h.b; have h3 := h.c; have h4 := h.d; have h5 := h.e; have h6 := h.h; have h7 := h.l
 unfold getR; repeat' split
 all_goals omega
theorem pairR_word {r : CR} (h : r.Ok) (n : Int) : 0 ≤ pairR r n ∧ pairR r n < 65536 := by
 have h1 := h.a; have h2 := h.b; have h3 := h.c; have h4 := h.d; have h5 := h.e; have h6 := h.h; have h7 := h.l; have h8 := h.f; have h9 := h.sp
 unfold pairR; repeat' split
 all_goals omega
theorem CR.Ok.set {r : CR} (h : r.Ok) (n : Int) {x : Int} (hx : 0 ≤ x ∧ x < 256) : (setR r n x).Ok := by
 unfold setR; repeat' split
 all_goals first | exact r0_ok | exact ⟨hx, h.f, h.b, h.c, h.d, h.e, h.h, h.l, h.sp, h.pc⟩ | exact ⟨h.a, h.f, hx, h.c, h.d, h.e, h.h, h.l, h.sp, h.pc⟩ | exact ⟨h.a, h.f, h.b, hx, h.d, h.e, h.h, h.l, h.sp, h.pc⟩ | exact ⟨h.a, h.f, h.b, h.c, hx, h.e, h.h, h.l, h.sp, h.pc⟩ | exact ⟨h.a, h.f, h.b, h.c, h.d, hx, h.h, h.l, h.sp, h.pc⟩ | exact ⟨h.a, h.f, h.b, h.c, h.d, h.e, hx, h.l, h.sp, h.pc⟩ | exact ⟨h.a, h.f, h.b, h.c, h.d, h.e, h.h, hx, h.sp, h.pc⟩
theorem CR.Ok.setP {r : CR} (h : r.Ok) (n : Int) {x : Int} (hx : 0 ≤ x ∧ x < 65536) : (setPR r n x).Ok := by
 have hh : 0 ≤ x / 256 ∧ x / 256 < 256 := by omega
 have hl : 0 ≤ x % 256 ∧ x % 256 < 256 := by omega
 have hf : 0 ≤ x % 256 / 16 * 16 ∧ x % 256 / 16 * 16 < 256 := by omega
 unfold setPR; repeat' split
 all_goals first | exact r0_ok | exact ⟨h.a, h.f, hh, hl, h.d, h.e, h.h, h.l, h.sp, h.pc⟩ | exact ⟨h.a, h.f, h.b, h.c, hh, hl, h.h, h.l, h.sp, h.pc⟩ | exact ⟨h.a, h.f, h.b, h.c, h.d, h.e, hh, hl, h.sp, h.pc⟩ | exact ⟨h.a, h.f, h.b, h.c, h.d, h.e, h.h, h.l, hx, h.pc⟩ | exact ⟨hh, hf, h.b, h.c, h.d, h.e, h.h, h.l, h.sp, h.pc⟩
structure CS where
 r : CR
 ime : Bool
 soon : Bool
 halt : Bool
 stop : Bool
deriving DecidableEq
def cS (s : CS) : List Value := cR s.r ++ [.bool s.ime, .bool s.soon, .bool s.halt, .bool s.stop]
structure Dd where
 what : Int
 n : Int
 at_ : Int
 op : Opr
 taken : Bool
def oN : Opr := ⟨0, 0, 0, 0, 0⟩
def cDd (d : Dd) : List Value := [.int .i64 d.what, .int .i64 d.n, .int .u16 d.at_] ++ cO d.op ++ [.bool d.taken]
structure BusA (β : Type) where
 fetch : Int → β → Int × β
 read : Int → β → Int × β
 write : Int → Int → β → β
 idle : β → β
 pend : β → Int
 ack : Int → β → β
structure Rn (β : Type) where
 s : CS
 m : β
def inc16 (w : Int) : Int := (w + 1) % 65536
def dec16 (w : Int) : Int := (w - 1) % 65536
def resB (v n : Int) : Int := v - v / 2 ^ n.toNat % 2 * 2 ^ n.toNat
def setB (v n : Int) : Int := v + (1 - v / 2 ^ n.toNat % 2) * 2 ^ n.toNat
def sumR (r : CR) (k b : Int) : CR :=
 if k = 0 then { r with a := addR r.a b false, f := addF r.a b false } else if k = 1 then { r with a := addR r.a b (cF r.f), f := addF r.a b (cF r.f) }
 else if k = 2 then { r with a := subR r.a b false, f := subF r.a b false } else if k = 3 then { r with a := subR r.a b (cF r.f), f := subF r.a b (cF r.f) }
 else if k = 4 then { r with a := band .u8 r.a b, f := logF 0 (band .u8 r.a b) } else if k = 5 then { r with a := bxor .u8 r.a b, f := logF 2 (bxor .u8 r.a b) }
 else if k = 6 then { r with a := bor .u8 r.a b, f := logF 1 (bor .u8 r.a b) } else if k = 7 then { r with f := subF r.a b false } else r
section
variable {β : Type}
def Rn.reg (x : Rn β) (r : CR) : Rn β := ⟨{ x.s with r := r }, x.m⟩
def Rn.mem (x : Rn β) (m : β) : Rn β := ⟨x.s, m⟩
variable (A : BusA β)
def gett (n : Int) (x : Rn β) : Int × Rn β := if n = 6 then ((A.read (pairR x.s.r 2) x.m).1, x.mem (A.read (pairR x.s.r 2) x.m).2) else (getR x.s.r n, x)
def sett (n v : Int) (x : Rn β) : Rn β := if n = 6 then x.mem (A.write (pairR x.s.r 2) v x.m) else x.reg (setR x.s.r n v)
def push1 (v : Int) (x : Rn β) : Rn β := ⟨{ x.s with r := { x.s.r with sp := dec16 x.s.r.sp } }, A.write (dec16 x.s.r.sp) v x.m⟩
def push (w : Int) (x : Rn β) : Rn β := push1 A (w % 256) (push1 A (w / 256) x)
def pop1 (x : Rn β) : Int × Rn β := ((A.read x.s.r.sp x.m).1, ⟨{ x.s with r := { x.s.r with sp := inc16 x.s.r.sp } }, (A.read x.s.r.sp x.m).2⟩)
def pop (x : Rn β) : Int × Rn β := ((pop1 A (pop1 A x).2).1 * 256 + (pop1 A x).1, (pop1 A (pop1 A x).2).2)
def idles : Nat → Rn β → Rn β
 | 0, x => x
 | n + 1, x => (idles n x).mem (A.idle (idles n x).m)
def change (n : Int) (g : Int → Int → Int × Int) (x : Rn β) : Rn β :=
 let q := gett A n x
 let y := sett A n (g q.1 q.2.s.r.f).1 q.2
 y.reg { y.s.r with f := (g q.1 q.2.s.r.f).2 }
def far (n : Int) (x : Rn β) : Int × Rn β :=
 if n < 2 then (pairR x.s.r n, x) else (pairR x.s.r 2, x.reg (setPR x.s.r 2 (if n = 2 then inc16 (pairR x.s.r 2) else dec16 (pairR x.s.r 2))))
def goto (w : Int) (x : Rn β) : Rn β := x.reg { x.s.r with pc := w }
def isB (k : Int) : Bool := decide (k = 7 ∨ k = 8 ∨ (10 ≤ k ∧ k ≤ 13) ∨ (17 ≤ k ∧ k ≤ 22) ∨ (44 ≤ k ∧ k ≤ 46))
def effB (o : Opr) (x : Rn β) : Rn β :=
 if o.kind = 7 then sett A o.x (gett A o.y x).1 (gett A o.y x).2
 else if o.kind = 8 then sett A o.x (o.n % 256) x
 else if o.kind = 10 then (gett A o.y x).2.reg (sumR (gett A o.y x).2.s.r o.x (gett A o.y x).1)
 else if o.kind = 11 then x.reg (sumR x.s.r o.x (o.n % 256))
 else if o.kind = 12 then change A o.x (fun v f => (incR v, incF v f)) x
 else if o.kind = 13 then change A o.x (fun v f => (decR v, decF v f)) x
 else if o.kind = 17 then change A o.y (fun v f => (turnR o.x v f, turnF o.x v f)) x
 else if o.kind = 18 then x.reg { x.s.r with a := turnR o.x x.s.r.a x.s.r.f, f := fl false false false (turnO o.x x.s.r.a) }
 else if o.kind = 44 then (gett A o.y x).2.reg { (gett A o.y x).2.s.r with f := bitF o.x (gett A o.y x).1 x.s.r.f }
 else if o.kind = 45 then sett A o.y (resB (gett A o.y x).1 o.x) (gett A o.y x).2
 else if o.kind = 46 then sett A o.y (setB (gett A o.y x).1 o.x) (gett A o.y x).2
 else if o.kind = 19 then x.reg { x.s.r with a := daaR x.s.r.a x.s.r.f, f := daaF x.s.r.a x.s.r.f }
 else if o.kind = 20 then x.reg { x.s.r with a := 255 - x.s.r.a, f := fl (zF x.s.r.f) true true (cF x.s.r.f) }
 else if o.kind = 21 then x.reg { x.s.r with f := fl (zF x.s.r.f) false false true }
 else if o.kind = 22 then x.reg { x.s.r with f := fl (zF x.s.r.f) false false (!cF x.s.r.f) }
 else x
def isW (k : Int) : Bool := decide (k = 9 ∨ (14 ≤ k ∧ k ≤ 16) ∨ k = 30 ∨ k = 31 ∨ (40 ≤ k ∧ k ≤ 43))
def effW (o : Opr) (x : Rn β) : Rn β :=
 if o.kind = 9 then x.reg (setPR x.s.r o.x o.n)
 else if o.kind = 14 then idles A 1 (x.reg (setPR x.s.r o.x (inc16 (pairR x.s.r o.x))))
 else if o.kind = 15 then idles A 1 (x.reg (setPR x.s.r o.x (dec16 (pairR x.s.r o.x))))
 else if o.kind = 16 then idles A 1 (x.reg (setPR { x.s.r with f := add16F (pairR x.s.r 2) (pairR x.s.r o.x) x.s.r.f } 2 (add16R (pairR x.s.r 2) (pairR x.s.r o.x))))
 else if o.kind = 41 then idles A 2 (x.reg { x.s.r with sp := shR x.s.r.sp (o.n % 256), f := shF x.s.r.sp (o.n % 256) })
 else if o.kind = 42 then idles A 1 (x.reg (setPR { x.s.r with f := shF x.s.r.sp (o.n % 256) } 2 (shR x.s.r.sp (o.n % 256))))
 else if o.kind = 43 then idles A 1 (x.reg { x.s.r with sp := pairR x.s.r 2 })
 else if o.kind = 30 then push A (pairR (idles A 1 x).s.r o.x) (idles A 1 x)
 else if o.kind = 31 then (pop A x).2.reg (setPR (pop A x).2.s.r o.x (pop A x).1)
 else if o.kind = 40 then x.mem (A.write (inc16 o.n) (x.s.r.sp / 256) (A.write o.n (x.s.r.sp % 256) x.m))
 else x
def isP (k : Int) : Bool := decide (32 ≤ k ∧ k ≤ 39)
def place (o : Opr) (x : Rn β) : Int × Rn β :=
 if o.kind = 32 ∨ o.kind = 33 then far o.x x else if o.kind = 34 ∨ o.kind = 35 then (65280 + o.n % 256, x) else if o.kind = 36 ∨ o.kind = 37 then (65280 + x.s.r.c, x) else (o.n, x)
def effP (o : Opr) (x : Rn β) : Rn β :=
 let p := place o x
 if o.kind = 32 ∨ o.kind = 34 ∨ o.kind = 36 ∨ o.kind = 38 then ⟨{ p.2.s with r := { p.2.s.r with a := (A.read p.1 p.2.m).1 } }, (A.read p.1 p.2.m).2⟩
 else p.2.mem (A.write p.1 p.2.s.r.a p.2.m)
def metJ (o : Opr) (x : Rn β) : Bool := !(decide (23 ≤ o.kind ∧ o.kind ≤ 26)) || isR x.s.r o.x
def effJ (o : Opr) (x0 : Rn β) : Rn β :=
 let x := if o.kind = 26 ∧ o.x ≠ 4 then idles A 1 x0 else x0
 if metJ o x0 = false then x
 else if o.kind = 23 then goto ((x.s.r.pc + s8 (o.n % 256)) % 65536) (idles A 1 x)
 else if o.kind = 24 then goto o.n (idles A 1 x)
 else if o.kind = 25 ∨ o.kind = 28 then goto o.n (push A x.s.r.pc (idles A 1 x))
 else if o.kind = 27 then idles A 1 (goto (pop A ⟨{ x.s with ime := true }, x.m⟩).1 (pop A ⟨{ x.s with ime := true }, x.m⟩).2)
 else if o.kind = 26 then idles A 1 (goto (pop A x).1 (pop A x).2)
 else if o.kind = 29 then goto (pairR x.s.r 2) x
 else x
def ordT (o : Opr) (at_ : Int) (x : Rn β) : Bool × Rn β :=
 if o.kind = 2 then (true, ⟨{ x.s with stop := true }, x.m⟩)
 else if o.kind = 3 then (true, ⟨{ x.s with halt := true }, x.m⟩)
 else if o.kind = 4 then (true, goto at_ x)
 else if o.kind = 5 then (true, ⟨{ x.s with ime := false }, x.m⟩)
 else if o.kind = 6 then (true, ⟨{ x.s with soon := true }, x.m⟩)
 else if isB o.kind = true then (true, effB A o x)
 else if isW o.kind = true then (true, effW A o x)
 else if isP o.kind = true then (true, effP A o x)
 else (metJ o x, effJ A o x)
def fetch1 (x : Rn β) : Int × Rn β := ((A.fetch x.s.r.pc x.m).1, ⟨{ x.s with r := { x.s.r with pc := inc16 x.s.r.pc } }, (A.fetch x.s.r.pc x.m).2⟩)
structure Nx (β : Type) where
 b : List Int
 o : Opr
 x : Rn β
def nx1 (q : Nx β) (i : Nat) : Nx β :=
 let p := fetch1 A q.x
 let b := q.b.set i p.1
 ⟨b, dcd (b.getD 0 0) (b.getD 1 0) (b.getD 2 0), p.2⟩
def nx0 (x : Rn β) : Nx β := ⟨[0, 0, 0], ⟨0, 0, 0, 1, 0⟩, x⟩
def nxN (x : Rn β) : Nat → Nx β
 | 0 => nx0 x
 | n + 1 => nx1 A (nxN x n) n
def nextT (x : Rn β) : Opr × Rn β :=
 if ((nxN A x 1).o.size ≤ 1) then ((nxN A x 1).o, (nxN A x 1).x) else if ((nxN A x 2).o.size ≤ 2) then ((nxN A x 2).o, (nxN A x 2).x) else ((nxN A x 3).o, (nxN A x 3).x)
def low1 (p : Int) : Int := if p % 2 = 1 then 0 else if p / 2 % 2 = 1 then 1 else if p / 4 % 2 = 1 then 2 else if p / 8 % 2 = 1 then 3 else 4
def takeI (p : Int) (x : Rn β) : Rn β :=
 let y := push A x.s.r.pc (idles A 2 x)
 let z := idles A 1 (y.mem (A.ack (low1 p) y.m))
 ⟨{ z.s with ime := false, soon := false, r := { z.s.r with pc := 64 + 8 * low1 p } }, z.m⟩
def stepT (x : Rn β) : Dd × Rn β :=
 if x.s.stop = true then (⟨0, 0, x.s.r.pc, oN, false⟩, ⟨{ x.s with stop := A.pend (A.idle x.m) / 16 % 2 == 0 }, A.idle x.m⟩)
 else if x.s.halt = true ∧ A.pend x.m = 0 then (⟨0, 0, x.s.r.pc, oN, false⟩, x.mem (A.idle x.m))
 else
  let y : Rn β := ⟨{ x.s with halt := false }, x.m⟩
  if x.s.ime = true ∧ A.pend x.m ≠ 0 then (⟨2, low1 (A.pend x.m), x.s.r.pc, oN, false⟩, takeI A (A.pend x.m) y)
  else
   let q := nextT A ⟨{ y.s with soon := false }, y.m⟩
   let t := ordT A q.1 x.s.r.pc q.2
   (⟨1, 0, x.s.r.pc, q.1, t.1⟩, if x.s.soon = true ∧ q.1.kind ≠ 5 then ⟨{ t.2.s with ime := true }, t.2.m⟩ else t.2)
end
structure BusO (β : Type) extends BusA β where
 ok : Nat → β → Prop
 oF : ∀ {n : Nat} {m : β} {a : Int}, ok (n + 1) m → 0 ≤ a ∧ a < 65536 → ok n (fetch a m).2 ∧ 0 ≤ (fetch a m).1 ∧ (fetch a m).1 < 256
 oR : ∀ {n : Nat} {m : β} {a : Int}, ok (n + 1) m → 0 ≤ a ∧ a < 65536 → ok n (read a m).2 ∧ 0 ≤ (read a m).1 ∧ (read a m).1 < 256
 oW : ∀ {n : Nat} {m : β} {a x : Int}, ok (n + 1) m → 0 ≤ a ∧ a < 65536 → 0 ≤ x ∧ x < 256 → ok n (write a x m)
 oI : ∀ {n : Nat} {m : β}, ok (n + 1) m → ok n (idle m)
 oP : ∀ {n : Nat} {m : β}, ok n m → 0 ≤ pend m ∧ pend m < 32
 oA : ∀ {k : Nat} {m : β} {n : Int}, ok k m → 0 ≤ n ∧ n < 5 → ok k (ack n m)
 oL : ∀ {n k : Nat} {m : β}, ok n m → k ≤ n → ok k m
structure BusK (P : Program) (β : Type) extends BusO β where
 t0 : TypeId
 v : Value
 rep : β → Heap → Prop
 fF : Nat
 fR : Nat
 fW : Nat
 fI : Nat
 fP : Nat
 fA : Nat
 mF : HasM P t0 "Fetch" fF
 mR : HasM P t0 "Read" fR
 mW : HasM P t0 "Write" fW
 mI : HasM P t0 "Idle" fI
 mP : HasM P t0 "Pending" fP
 mA : HasM P t0 "Ack" fA
 cF : callable P fF = true
 cR : callable P fR = true
 cW : callable P fW = true
 cI : callable P fI = true
 cP : callable P fP = true
 cA : callable P fA = true
 dF : ∀ {n : Nat} {m : β} {H : Heap} {w : World} {a : Int}, ok (n + 1) m → rep m H → St w (H.map (·.1)) H w → 0 ≤ a ∧ a < 65536 → Does P fF [v, .int .u16 a] w (H.map (·.1)) (fun u H' => u = .int .u8 (fetch a m).1 ∧ rep (fetch a m).2 H')
 dR : ∀ {n : Nat} {m : β} {H : Heap} {w : World} {a : Int}, ok (n + 1) m → rep m H → St w (H.map (·.1)) H w → 0 ≤ a ∧ a < 65536 → Does P fR [v, .int .u16 a] w (H.map (·.1)) (fun u H' => u = .int .u8 (read a m).1 ∧ rep (read a m).2 H')
 dW : ∀ {n : Nat} {m : β} {H : Heap} {w : World} {a x : Int}, ok (n + 1) m → rep m H → St w (H.map (·.1)) H w → 0 ≤ a ∧ a < 65536 → 0 ≤ x ∧ x < 256 → Does P fW [v, .int .u16 a, .int .u8 x] w (H.map (·.1)) (fun u H' => u = .tuple #[] ∧ rep (write a x m) H')
 dI : ∀ {n : Nat} {m : β} {H : Heap} {w : World}, ok (n + 1) m → rep m H → St w (H.map (·.1)) H w → Does P fI [v] w (H.map (·.1)) (fun u H' => u = .tuple #[] ∧ rep (idle m) H')
 dP : ∀ {n : Nat} {m : β} {H : Heap} {w : World}, ok n m → rep m H → St w (H.map (·.1)) H w → Does P fP [v] w (H.map (·.1)) (fun u H' => u = .int .u8 (pend m) ∧ H' = H)
 dA : ∀ {k : Nat} {m : β} {H : Heap} {w : World} {n : Int}, ok k m → rep m H → St w (H.map (·.1)) H w → 0 ≤ n ∧ n < 5 → Does P fA [v, .int .i64 n] w (H.map (·.1)) (fun u H' => u = .tuple #[] ∧ rep (ack n m) H')
instance {P : Program} {β : Type} : CoeOut (BusK P β) (BusO β) := ⟨fun K => K.toBusO⟩
section
variable {P : Program} {β : Type} (K : BusK P β)
def cN (s : CS) : List Value := cS s ++ [.iface K.t0 K.v]
def RunH (rb : Nat) (x : Rn β) (H : Heap) : Prop := ∃ G, H = (rb, blk (cN K x.s) 211) :: G ∧ K.rep x.m G
def byteAt (w : Int) (i : Nat) : Int := if i = 0 then w / 256 else w % 256
def pushN (A : BusA β) (w : Int) (x : Rn β) : Nat → Rn β
 | 0 => x
 | i + 1 => push1 A (byteAt w i) (pushN A w x i)
theorem byteAt_get (w : Int) {i : Nat} (h : i < 2) : ([.int .u8 (w / 256), .int .u8 (w % 256)] : List Value)[0 + i]? = some (.int .u8 (byteAt w i)) := by
 match i, h with
 | 0, _ => rfl
 | 1, _ => rfl
theorem byteAt_ok {w : Int} (h : 0 ≤ w ∧ w < 65536) (i : Nat) : 0 ≤ byteAt w i ∧ byteAt w i < 256 := by unfold byteAt; split <;> omega
def popN (A : BusA β) (x : Rn β) : Nat → Int × Rn β
 | 0 => (0, x)
 | i + 1 => ((popN A x i).1 + (pop1 A (popN A x i).2).1 * (if i = 0 then 1 else 256), (pop1 A (popN A x i).2).2)
end
section
variable {β : Type} (K : BusO β)
structure RunOk (n : Nat) (x : Rn β) : Prop where
 r : x.s.r.Ok
 m : K.ok n x.m
end
section
variable {β : Type} {K : BusO β} {x : Rn β} {n : Nat}
theorem RunOk.le {k : Nat} (h : RunOk K n x) (hk : k ≤ n) : RunOk K k x := ⟨h.r, K.oL h.m hk⟩
theorem RunOk.reg (h : RunOk K n x) {r : CR} (hr : r.Ok) : RunOk K n (x.reg r) := ⟨hr, h.m⟩
theorem RunOk.mem (h : RunOk K n x) {k : Nat} {m : β} (hm : K.ok k m) : RunOk K k (x.mem m) := ⟨h.r, hm⟩
theorem inc16_ok {w : Int} : 0 ≤ inc16 w ∧ inc16 w < 65536 := by unfold inc16; omega
theorem dec16_ok {w : Int} : 0 ≤ dec16 w ∧ dec16 w < 65536 := by unfold dec16; omega
theorem CR.Ok.sp_ {r : CR} (h : r.Ok) {w : Int} (hw : 0 ≤ w ∧ w < 65536) : ({ r with sp := w } : CR).Ok := ⟨h.a, h.f, h.b, h.c, h.d, h.e, h.h, h.l, hw, h.pc⟩
theorem CR.Ok.pc_ {r : CR} (h : r.Ok) {w : Int} (hw : 0 ≤ w ∧ w < 65536) : ({ r with pc := w } : CR).Ok := ⟨h.a, h.f, h.b, h.c, h.d, h.e, h.h, h.l, h.sp, hw⟩
theorem CR.Ok.f_ {r : CR} (h : r.Ok) {w : Int} (hw : 0 ≤ w ∧ w < 256) : ({ r with f := w } : CR).Ok := ⟨h.a, hw, h.b, h.c, h.d, h.e, h.h, h.l, h.sp, h.pc⟩
theorem CR.Ok.a_ {r : CR} (h : r.Ok) {w : Int} (hw : 0 ≤ w ∧ w < 256) : ({ r with a := w } : CR).Ok := ⟨hw, h.f, h.b, h.c, h.d, h.e, h.h, h.l, h.sp, h.pc⟩
theorem RunOk.gett (h : RunOk K (n + 1) x) (k : Int) : RunOk K n (gett K.toBusA k x).2 ∧ 0 ≤ (gett K.toBusA k x).1 ∧ (gett K.toBusA k x).1 < 256 := by
 unfold Go.Proofs.YtldehodcfajpjaaGreat.gett
 split
 ·have := K.oR h.m (pairR_word h.r 2)
  exact ⟨h.mem this.1, this.2⟩
 ·exact ⟨h.le o_m, getR_byte h.r k⟩
theorem gett_s (k : Int) : (gett K.toBusA k x).2.s = x.s := by
 unfold Go.Proofs.YtldehodcfajpjaaGreat.gett; split <;> rfl
theorem gett_mem (k : Int) : (gett K.toBusA k x).2 = x.mem (gett K.toBusA k x).2.m := by
 unfold Go.Proofs.YtldehodcfajpjaaGreat.gett; split <;> rfl
theorem RunOk.gmem (h : RunOk K (n + 1) x) (k : Int) : RunOk K n (x.mem (Go.Proofs.YtldehodcfajpjaaGreat.gett K.toBusA k x).2.m) := by rw [← gett_mem]; exact (h.gett k).1
theorem pop_law {a v : Int} {i : Nat} (hi : i < 2) (ha : 0 ≤ a ∧ a < 256) (hz : i = 0 → a = 0) (hv : 0 ≤ v ∧ v < 256) : bor .u16 a (shl .u16 v (8 * (i : Int))) = a + v * (if i = 0 then 1 else 256) := by
 match i, hi with
 | 0, _ =>
  obtain rfl := hz rfl
  rw [if_pos rfl]
  have e : shl .u16 v (8 * ((0 : Nat) : Int)) = v := by unfold shl; exact (wrap_u16_id (by show 0 ≤ v * 2 ^ 0; omega) (by show v * 2 ^ 0 < 65536; omega)).trans (by show v * 2 ^ 0 = v; omega)
  rw [e]
  have := or_wrd (h := 0) (l := v) y_c hv
  simpa using this
 | 1, _ =>
  rw [if_neg y_c]
  have := or_law ha hv
  rw [show (8 * ((1 : Nat) : Int)) = 8 by rfl, this]
  omega
theorem RunOk.far (h : RunOk K n x) (k : Int) : RunOk K n (Go.Proofs.YtldehodcfajpjaaGreat.far k x).2 ∧ 0 ≤ (Go.Proofs.YtldehodcfajpjaaGreat.far k x).1 ∧ (Go.Proofs.YtldehodcfajpjaaGreat.far k x).1 < 65536 := by
 unfold Go.Proofs.YtldehodcfajpjaaGreat.far
 split
 ·exact ⟨h, pairR_word h.r k⟩
 ·refine ⟨h.reg (h.r.setP 2 ?_), pairR_word h.r 2⟩
  split
  ·exact inc16_ok
  ·exact dec16_ok
theorem RunOk.sett (h : RunOk K (n + 1) x) (k : Int) {v : Int} (hv : 0 ≤ v ∧ v < 256) : RunOk K n (sett K.toBusA k v x) := by
 unfold Go.Proofs.YtldehodcfajpjaaGreat.sett
 split
 ·exact h.mem (K.oW h.m (pairR_word h.r 2) hv)
 ·exact (h.le o_m).reg (h.r.set k hv)
theorem RunOk.push1 (h : RunOk K (n + 1) x) {v : Int} (hv : 0 ≤ v ∧ v < 256) : RunOk K n (push1 K.toBusA v x) := ⟨h.r.sp_ dec16_ok, K.oW h.m dec16_ok hv⟩
theorem RunOk.push (h : RunOk K (n + 2) x) {w : Int} (hw : 0 ≤ w ∧ w < 65536) : RunOk K n (push K.toBusA w x) := (h.push1 (v := w / 256) o_m).push1 (v := w % 256) o_m
theorem RunOk.pop1 (h : RunOk K (n + 1) x) : RunOk K n (pop1 K.toBusA x).2 ∧ 0 ≤ (pop1 K.toBusA x).1 ∧ (pop1 K.toBusA x).1 < 256 := by
 have := K.oR h.m h.r.sp
 exact ⟨⟨h.r.sp_ inc16_ok, this.1⟩, this.2⟩
theorem RunOk.pop (h : RunOk K (n + 2) x) : RunOk K n (pop K.toBusA x).2 ∧ 0 ≤ (pop K.toBusA x).1 ∧ (pop K.toBusA x).1 < 65536 := by
 have h1 := h.pop1
 have h2 := h1.1.pop1
 refine ⟨h2.1, ?_⟩
 unfold Go.Proofs.YtldehodcfajpjaaGreat.pop
 dsimp only
 omega
theorem RunOk.pushN (h : RunOk K (n + 2) x) {w : Int} (hw : 0 ≤ w ∧ w < 65536) : ∀ i, i ≤ 2 → RunOk K (n + (2 - i)) (pushN K.toBusA w x i)
 | 0, _ => h
 | i + 1, hi => RunOk.push1 ((h.pushN hw i o_m).le o_m) (byteAt_ok hw i)
theorem RunOk.popN (h : RunOk K (n + 2) x) : ∀ i, i ≤ 2 → RunOk K (n + (2 - i)) (popN K.toBusA x i).2
 | 0, _ => h
 | i + 1, hi => (RunOk.pop1 ((h.popN i o_m).le o_m)).1
theorem popN_2 : popN K.toBusA x 2 = pop K.toBusA x := by
 unfold Go.Proofs.YtldehodcfajpjaaGreat.pop
 simp only [Go.Proofs.YtldehodcfajpjaaGreat.popN]
 simp only [if_true, Int.zero_add, Int.mul_one]
 rw [if_neg y_c, Int.add_comm]
theorem popN_le (h : RunOk K (n + 1) x) {i : Nat} (hi : i < 2) : 0 ≤ (popN K.toBusA x i).1 ∧ (popN K.toBusA x i).1 < 256 := by
 match i, hi with
 | 0, _ => exact ⟨Int.le_refl 0, show (0 : Int) < 256 by decide⟩
 | 1, _ =>
  have := h.pop1.2
  simp only [Go.Proofs.YtldehodcfajpjaaGreat.popN, if_true, Int.zero_add, Int.mul_one]
  exact this
theorem RunOk.idles {k : Nat} (h : RunOk K (n + k) x) : ∀ i, i ≤ k → RunOk K (n + (k - i)) (idles K.toBusA i x)
 | 0, _ => h
 | i + 1, hi => (h.idles i o_m).mem (K.oI (K.oL (h.idles i o_m).m o_m))
theorem RunOk.idleK (k : Nat) (h : RunOk K (n + k) x) : RunOk K n (Go.Proofs.YtldehodcfajpjaaGreat.idles K.toBusA k x) := (h.idles k (Nat.le_refl _)).le o_m
theorem RunOk.fetch1 (h : RunOk K (n + 1) x) : RunOk K n (fetch1 K.toBusA x).2 ∧ 0 ≤ (fetch1 K.toBusA x).1 ∧ (fetch1 K.toBusA x).1 < 256 := by
 have := K.oF h.m h.r.pc
 exact ⟨⟨h.r.pc_ inc16_ok, this.1⟩, this.2⟩
end
structure OpOk (o : Opr) : Prop where
 n : 0 ≤ o.n ∧ o.n < 65536
 x : 0 ≤ o.x ∧ o.x < 8
 small : o.kind = 34 ∨ o.kind = 35 → o.n < 256
def opOkB (o : Opr) : Bool := decide (0 ≤ o.n ∧ o.n < 256 ∧ 0 ≤ o.x ∧ o.x < 8 ∧ ((o.kind = 34 ∨ o.kind = 35) → o.size = 2))
theorem opOk_all : tabP.all opOkB = true := by kernel_rfl
theorem dcd_op {a b c : Int} (ha : 0 ≤ a ∧ a < 256) (hb : 0 ≤ b ∧ b < 256) (hc : 0 ≤ c ∧ c < 256) : OpOk (dcd a b c) := by
 by_cases h : a = 203
 ·rw [dcd_beh h]; unfold behS
  split <;> exact ⟨⟨y_F, y_F⟩, ⟨y_F, y_F⟩, fun hk => by dsimp only at hk ⊢; omega⟩
 ·obtain ⟨m, o, hm, _, ho⟩ := tab_some ha.1 ha.2
  have hr : 0 ≤ o.n ∧ o.n < 256 ∧ 0 ≤ o.x ∧ o.x < 8 ∧ ((o.kind = 34 ∨ o.kind = 35) → o.size = 2) := of_decide_eq_true (List.all_eq_true.1 opOk_all o (List.mem_of_getElem? ho))
  rw [dcd_plain hm h ho]
  by_cases h2 : o.size = 2
  ·rw [numO_2 h2]; exact ⟨⟨hb.1, y_F⟩, ⟨hr.2.2.1, hr.2.2.2.1⟩, fun _ => hb.2⟩
  ·by_cases h3 : o.size = 3
   ·rw [numO_3 h3]; exact ⟨⟨y_F, y_F⟩, ⟨hr.2.2.1, hr.2.2.2.1⟩, fun hk => absurd (hr.2.2.2.2 hk) h2⟩
   ·rw [numO_1 h2 h3]; exact ⟨⟨hr.1, y_D⟩, ⟨hr.2.2.1, hr.2.2.2.1⟩, fun hk => absurd (hr.2.2.2.2 hk) h2⟩
theorem St.notin {A B : Heap} {w0 w : World} {ms : List Nat} (h : St w0 ms (A ++ B) w) {x : Nat × Obj} (hx : x ∈ B) : x.1 ∉ A.map (·.1) := fun hm => by
 have := h.nodup
 rw [List.map_append, List.nodup_append] at this
 exact this.2.2 _ hm _ (List.mem_map_of_mem hx) rfl
theorem band_fl16 (z n h c : Bool) : band .u8 (fl z n h c) 16 = fl false false false c := by cases z <;> cases n <;> cases h <;> cases c <;> decide
theorem res_law {v n : Int} (hv : 0 ≤ v ∧ v < 256) (hn : 0 ≤ n ∧ n < 8) : bandn .u8 v (shl .u8 1 n) = resB v n := by
 rcases (show n = 0 ∨ n = 1 ∨ n = 2 ∨ n = 3 ∨ n = 4 ∨ n = 5 ∨ n = 6 ∨ n = 7 by omega) with rfl | rfl | rfl | rfl | rfl | rfl | rfl | rfl
 all_goals revert v; intro v hv; refine byte_all (p := fun v => bandn .u8 v (shl .u8 1 _) = resB v _) ?_ hv.1 hv.2; decide +kernel
theorem set_law {v n : Int} (hv : 0 ≤ v ∧ v < 256) (hn : 0 ≤ n ∧ n < 8) : bor .u8 v (shl .u8 1 n) = setB v n := by
 rcases (show n = 0 ∨ n = 1 ∨ n = 2 ∨ n = 3 ∨ n = 4 ∨ n = 5 ∨ n = 6 ∨ n = 7 by omega) with rfl | rfl | rfl | rfl | rfl | rfl | rfl | rfl
 all_goals revert v; intro v hv; refine byte_all (p := fun v => bor .u8 v (shl .u8 1 _) = setB v _) ?_ hv.1 hv.2; decide +kernel
theorem bits_ok {v n : Int} (hv : 0 ≤ v ∧ v < 256) (hn : 0 ≤ n ∧ n < 8) : (0 ≤ resB v n ∧ resB v n < 256) ∧ (0 ≤ setB v n ∧ setB v n < 256) := by
 rcases (show n = 0 ∨ n = 1 ∨ n = 2 ∨ n = 3 ∨ n = 4 ∨ n = 5 ∨ n = 6 ∨ n = 7 by omega) with rfl | rfl | rfl | rfl | rfl | rfl | rfl | rfl
 all_goals revert v; intro v hv; refine byte_all (p := fun v => (0 ≤ resB v _ ∧ resB v _ < 256) ∧ (0 ≤ setB v _ ∧ setB v _ < 256)) ?_ hv.1 hv.2; decide +kernel
theorem cpl_law {f : Int} (h : 0 ≤ f ∧ f < 256) : bor .u8 (bor .u8 (band .u8 f 144) 64) 32 = fl (zF f) true true (cF f) := byte_all (p := fun f => bor .u8 (bor .u8 (band .u8 f 144) 64) 32 = fl (zF f) true true (cF f)) y_A h.1 h.2
theorem scf_law {f : Int} (h : 0 ≤ f ∧ f < 256) : bor .u8 (band .u8 f 128) 16 = fl (zF f) false false true := byte_all (p := fun f => bor .u8 (band .u8 f 128) 16 = fl (zF f) false false true) y_A h.1 h.2
theorem ccf_law {f : Int} (h : 0 ≤ f ∧ f < 256) : bxor .u8 (band .u8 f 144) 16 = fl (zF f) false false (!cF f) := byte_all (p := fun f => bxor .u8 (band .u8 f 144) 16 = fl (zF f) false false (!cF f)) y_A h.1 h.2
theorem addR_ok {a b : Int} {c : Bool} : 0 ≤ addR a b c ∧ addR a b c < 256 := by unfold addR; omega
theorem subR_ok {a b : Int} {c : Bool} : 0 ≤ subR a b c ∧ subR a b c < 256 := by unfold subR; omega
theorem incR_ok {a : Int} : 0 ≤ incR a ∧ incR a < 256 := by unfold incR; omega
theorem decR_ok {a : Int} : 0 ≤ decR a ∧ decR a < 256 := by unfold decR; omega
theorem daaR_ok {a f : Int} : 0 ≤ daaR a f ∧ daaR a f < 256 := by unfold daaR; split <;> omega
theorem turnR_ok {k a f : Int} (h : 0 ≤ a ∧ a < 256) : 0 ≤ turnR k a f ∧ turnR k a f < 256 := by
 have := b2i_le (cF f)
 unfold turnR; repeat' split
 all_goals omega
theorem add16R_ok {a b : Int} : 0 ≤ add16R a b ∧ add16R a b < 65536 := by unfold add16R; omega
theorem shR_ok {a b : Int} : 0 ≤ shR a b ∧ shR a b < 65536 := by unfold shR; omega
theorem wrap_i8 (n : Int) : IntKind.i8.wrap n = s8 (n % 256) := by
 show (if (true && decide (n % 256 ≥ 128)) = true then n % 256 - 256 else n % 256) = _
 unfold s8
 split
 ·rename_i h; simp at h; rw [if_pos o_m]
 ·rename_i h; simp at h; rw [if_neg o_m]
theorem not_law {a : Int} (h : 0 ≤ a ∧ a < 256) : bxor .u8 255 a = 255 - a := byte_all (p := fun a => bxor .u8 255 a = 255 - a) y_A h.1 h.2
theorem page_or {n : Int} (h : 0 ≤ n ∧ n < 256) : bor .u16 65280 n = 65280 + n := by
 have := or_wrd (h := 255) (l := n) y_c h
 simpa using this
section
variable {β : Type} (A : BusA β)
theorem effB_no {o : Opr} (h : isB o.kind = false) (x : Rn β) : effB A o x = x := by
 have := of_decide_eq_false h
 unfold effB; repeat rw [if_neg o_m]
theorem effW_no {o : Opr} (h : isW o.kind = false) (x : Rn β) : effW A o x = x := by
 have := of_decide_eq_false h
 unfold effW; repeat rw [if_neg o_m]
end
section
variable {β : Type} {K : BusO β} {x : Rn β} {n : Nat}
theorem sum_ok {r : CR} (h : r.Ok) (k : Int) {b : Int} : (sumR r k b).Ok := by
 have hf : ∀ z n h c, 0 ≤ fl z n h c ∧ fl z n h c < 256 := fl_byte
 have b1 : 0 ≤ band .u8 r.a b ∧ band .u8 r.a b < 256 := by unfold band; rw [wrap_u8]; omega
 have b2 : 0 ≤ bxor .u8 r.a b ∧ bxor .u8 r.a b < 256 := by unfold bxor; rw [wrap_u8]; omega
 have b3 : 0 ≤ bor .u8 r.a b ∧ bor .u8 r.a b < 256 := by unfold bor; rw [wrap_u8]; omega
 unfold sumR addF subF logF
 repeat' split
 all_goals first | exact h | exact (h.a_ addR_ok).f_ (hf _ _ _ _) | exact (h.a_ subR_ok).f_ (hf _ _ _ _) | exact h.f_ (hf _ _ _ _) | exact (h.a_ b1).f_ (hf _ _ _ _) | exact (h.a_ b2).f_ (hf _ _ _ _) | exact (h.a_ b3).f_ (hf _ _ _ _)
end
section
variable {β : Type} {K : BusO β} {x : Rn β} {n : Nat}
structure NxOk (K : BusO β) (n : Nat) (q : Nx β) : Prop where
 x : RunOk K n q.x
 len : q.b.length = 3
 by_ : Byts q.b
 o : OpOk q.o
 sz : q.o.size ≤ 3
theorem NxOk.le {q : Nx β} {k : Nat} (h : NxOk K n q) (hk : k ≤ n) : NxOk K k q := ⟨h.x.le hk, h.len, h.by_, h.o, h.sz⟩
theorem NxOk.next {q : Nx β} (h : NxOk K (n + 1) q) (i : Nat) : NxOk K n (nx1 K.toBusA q i) := by
 have hf := h.x.fetch1
 have hb := byts_set h.by_ i hf.2
 exact ⟨hf.1, by simp [nx1, h.len], hb, dcd_op (hb.get 0) (hb.get 1) (hb.get 2), (dcd_fine (hb.get 0) (hb.get 1) (hb.get 2)).size.2⟩
theorem RunOk.nx (h : RunOk K (n + 3) x) : ∀ i, i ≤ 3 → NxOk K (n + (3 - i)) (nxN K.toBusA x i)
 | 0, _ => ⟨h, rfl, by intro y hy; simp [nx0, nxN] at hy; omega, show OpOk ⟨0, 0, 0, 1, 0⟩ from ⟨y_eK, y_eK, y_eK⟩, show (1 : Int) ≤ 3 by decide⟩
 | i + 1, hi => NxOk.next (by rw [show n + (3 - (i + 1)) + 1 = n + (3 - i) by omega]; exact h.nx i o_m) i
theorem nx_end (A : BusA β) {i : Nat} (hi : i ≤ 3) (hp : ∀ j : Nat, j < i → (j : Int) < (nxN A x j).o.size) (he : ¬ (i : Int) < (nxN A x i).o.size) : nextT A x = ((nxN A x i).o, (nxN A x i).x) := by
 unfold nextT
 match i, hi with
 | 0, _ => exact absurd (show (0 : Int) < 1 by decide) he
 | 1, _ => rw [if_pos o_m]
 | 2, _ =>
  have := hp 1 o_m
  rw [if_neg o_m, if_pos o_m]
 | 3, _ =>
  have := hp 1 o_m
  have := hp 2 o_m
  rw [if_neg o_m, if_neg o_m]
theorem nx_all (h : RunOk K (n + 3) x) : RunOk K n (nextT K.toBusA x).2 ∧ OpOk (nextT K.toBusA x).1 := by
 have h1 := h.nx 1 o_m
 have h2 := h.nx 2 o_m
 have h3 := h.nx 3 o_m
 unfold nextT
 split
 ·exact ⟨h1.x.le o_m, h1.o⟩
 ·split
  ·exact ⟨h2.x.le o_m, h2.o⟩
  ·exact ⟨h3.x.le o_m, h3.o⟩
theorem wake_law {p : Int} (h : 0 ≤ p ∧ p < 32) : (band .u8 p 16 == 0) = (p / 16 % 2 == 0) := byte_all (p := fun p => (band .u8 p 16 == 0) = (p / 16 % 2 == 0)) y_A h.1 o_m
theorem low1_ok (p : Int) : 0 ≤ low1 p ∧ low1 p < 5 := by
 unfold low1; repeat' split
 all_goals decide
end
section
variable {β : Type} {K : BusO β} {x : Rn β} {n : Nat}
theorem change_ok (h : RunOk K (n + 2) x) (k : Int) {g : Int → Int → Int × Int} (hg : ∀ a f, 0 ≤ a ∧ a < 256 → 0 ≤ f ∧ f < 256 → (0 ≤ (g a f).1 ∧ (g a f).1 < 256) ∧ (0 ≤ (g a f).2 ∧ (g a f).2 < 256)) : RunOk K n (change K.toBusA k g x) := by
 have h1 := h.gett k
 have h2 := hg _ _ h1.2 h1.1.r.f
 have h3 := RunOk.sett h1.1 k h2.1
 exact h3.reg (h3.r.f_ h2.2)
theorem ite_ok {c : Prop} [Decidable c] {a b : Rn β} (h1 : RunOk K n a) (h2 : RunOk K n b) : RunOk K n (if c then a else b) := by split <;> assumption
theorem effB_ok (h : RunOk K (n + 2) x) {o : Opr} (ho : OpOk o) : RunOk K n (effB K.toBusA o x) := by
 have h0 := h.le (k := n) o_m
 have h1 := h.le (k := n + 1) o_m
 have gy := h1.gett o.y
 have gy2 := h.gett o.y
 have hn : 0 ≤ o.n % 256 ∧ o.n % 256 < 256 := by omega
 have hb := bits_ok gy.2 ho.x
 have fb := fun z n h c => fl_byte z n h c
 unfold effB
 refine ite_ok (RunOk.sett gy2.1 _ gy.2) ?_
 refine ite_ok (h1.sett _ hn) ?_
 refine ite_ok (gy.1.reg (sum_ok gy.1.r _)) ?_
 refine ite_ok (h0.reg (sum_ok h.r _)) ?_
 refine ite_ok (change_ok h _ fun a f _ _ => ⟨incR_ok, fb _ _ _ _⟩) ?_
 refine ite_ok (change_ok h _ fun a f _ _ => ⟨decR_ok, fb _ _ _ _⟩) ?_
 refine ite_ok (change_ok h _ fun a f ha _ => ⟨turnR_ok ha, fb _ _ _ _⟩) ?_
 refine ite_ok (h0.reg ((h.r.a_ (turnR_ok h.r.a)).f_ (fb _ _ _ _))) ?_
 refine ite_ok (gy.1.reg (gy.1.r.f_ (fb _ _ _ _))) ?_
 refine ite_ok (RunOk.sett gy2.1 _ hb.1) ?_
 refine ite_ok (RunOk.sett gy2.1 _ hb.2) ?_
 refine ite_ok (h0.reg ((h.r.a_ daaR_ok).f_ (fb _ _ _ _))) ?_
 refine ite_ok (h0.reg ((h.r.a_ (w := 255 - x.s.r.a) (by have := h.r.a; omega)).f_ (fb _ _ _ _))) ?_
 refine ite_ok (h0.reg (h.r.f_ (fb _ _ _ _))) ?_
 refine ite_ok (h0.reg (h.r.f_ (fb _ _ _ _))) ?_
 exact h0
theorem effW_ok (h : RunOk K (n + 3) x) {o : Opr} (ho : OpOk o) : RunOk K n (effW K.toBusA o x) := by
 have h0 := h.le (k := n) o_m
 have h1 := h.le (k := n + 1) o_m
 have h2 := h.le (k := n + 2) o_m
 have fb := fun z n h c => fl_byte z n h c
 have hs := h.r.sp
 unfold effW
 repeat' split
 ·exact h0.reg (h.r.setP _ ho.n)
 ·exact RunOk.idleK 1 (h1.reg (h.r.setP _ inc16_ok))
 ·exact RunOk.idleK 1 (h1.reg (h.r.setP _ dec16_ok))
 ·exact RunOk.idleK 1 (h1.reg ((h.r.f_ (fb _ _ _ _)).setP _ add16R_ok))
 ·exact RunOk.idleK 2 (h2.reg ((h.r.sp_ shR_ok).f_ (fb _ _ _ _)))
 ·exact RunOk.idleK 1 (h1.reg ((h.r.f_ (fb _ _ _ _)).setP _ shR_ok))
 ·exact RunOk.idleK 1 (h1.reg (h.r.sp_ (pairR_word h.r _)))
 ·exact RunOk.push (h.idleK 1) (pairR_word (h.idleK 1).r _)
 ·exact h2.pop.1.reg (h2.pop.1.r.setP _ h2.pop.2)
 ·exact h0.mem (K.oW (K.oW h2.m ho.n o_m) inc16_ok o_m)
 ·exact h0
theorem place_ok (h : RunOk K n x) {o : Opr} (ho : OpOk o) : RunOk K n (place o x).2 ∧ 0 ≤ (place o x).1 ∧ (place o x).1 < 65536 := by
 have hc := h.r.c
 unfold place
 repeat' split
 ·exact h.far _
 ·exact ⟨h, y_F, y_F⟩
 ·exact ⟨h, y_F, y_F⟩
 ·exact ⟨h, ho.n⟩
theorem effP_ok (h : RunOk K (n + 1) x) {o : Opr} (ho : OpOk o) : RunOk K n (effP K.toBusA o x) := by
 have hp := place_ok h ho
 unfold effP
 dsimp only
 split
 ·have := K.oR hp.1.m hp.2
  exact ⟨hp.1.r.a_ this.2, this.1⟩
 ·exact hp.1.mem (K.oW hp.1.m hp.2 hp.1.r.a)
theorem effJ_ok (h : RunOk K (n + 4) x) {o : Opr} (ho : OpOk o) : RunOk K n (effJ K.toBusA o x) := by
 have hx : RunOk K (n + 3) (if o.kind = 26 ∧ o.x ≠ 4 then idles K.toBusA 1 x else x) := by
  split
  ·exact h.idleK 1
  ·exact h.le o_m
 unfold effJ
 dsimp only
 generalize (if o.kind = 26 ∧ o.x ≠ 4 then idles K.toBusA 1 x else x) = y at hx ⊢
 have h1 := hx.idleK 1
 have hg : ∀ {k : Nat} {z : Rn β} {w : Int}, RunOk K k z → 0 ≤ w ∧ w < 65536 → RunOk K k (goto w z) := fun hz hw => hz.reg (hz.r.pc_ hw)
 repeat' split
 ·exact hx.le o_m
 ·exact hg (h1.le o_m) o_m
 ·exact hg (h1.le o_m) ho.n
 ·exact hg (RunOk.push h1 hx.r.pc) ho.n
 ·have hq : RunOk K (n + 1 + 2) ⟨{ y.s with ime := true }, y.m⟩ := ⟨hx.r, hx.m⟩
  exact RunOk.idleK 1 (hg hq.pop.1 hq.pop.2)
 ·have hq : RunOk K (n + 1 + 2) y := hx
  exact RunOk.idleK 1 (hg hq.pop.1 hq.pop.2)
 ·exact hg (hx.le o_m) (pairR_word hx.r 2)
 ·exact hx.le o_m
theorem ordT_ok (h : RunOk K (n + 4) x) {o : Opr} (ho : OpOk o) {p : Int} (hp : 0 ≤ p ∧ p < 65536) : RunOk K n (ordT K.toBusA o p x).2 := by
 have h0 := h.le (k := n) o_m
 unfold ordT
 repeat' split
 ·exact ⟨h.r, h0.m⟩
 ·exact ⟨h.r, h0.m⟩
 ·exact h0.reg (h.r.pc_ hp)
 ·exact ⟨h.r, h0.m⟩
 ·exact ⟨h.r, h0.m⟩
 ·exact effB_ok (h.le o_m) ho
 ·exact effW_ok (h.le o_m) ho
 ·exact effP_ok (h.le o_m) ho
 ·exact effJ_ok h ho
theorem takeI_ok (h : RunOk K (n + 5) x) (p : Int) : RunOk K n (takeI K.toBusA p x) := by
 have h1 := RunOk.push (n := n + 1) (h.idleK 2) h.r.pc
 have hl := low1_ok p
 have h2 := RunOk.idleK (n := n) 1 (h1.mem (K.oA h1.m hl))
 exact ⟨h2.r.pc_ o_m, h2.m⟩
theorem step_ok (h : RunOk K (n + 7) x) : RunOk K n (stepT K.toBusA x).2 := by
 have h0 := h.le (k := n) o_m
 have h1 := h.le (k := n + 1) o_m
 unfold stepT
 dsimp only
 repeat' split
 ·exact ⟨h.r, K.oI h1.m⟩
 ·exact h0.mem (K.oI h1.m)
 ·exact takeI_ok (n := n) (x := ⟨{ x.s with halt := false }, x.m⟩) ⟨h.r, K.oL h.m o_m⟩ _
 all_goals
  have hq := nx_all (n := n + 4) (K := K) (x := ⟨{ x.s with halt := false, soon := false }, x.m⟩) ⟨h.r, h.m⟩
  have ho := ordT_ok hq.1 hq.2 h.r.pc
  first | exact ho | exact ⟨ho.r, ho.m⟩
end
structure Ac where
 kind : Int
 addr : Int
 val : Int
deriving DecidableEq
def cAc (a : Ac) : List Value := [.int .i64 a.kind, .int .u16 a.addr, .int .u8 a.val]
end Go.Proofs.YtldehodcfajpjaaGreat
