/- Parts. -/
import Derived.Test.YtdbgagkcgdlnnaaGreatQtE
set_option maxRecDepth 100000
set_option maxHeartbeats 1000000
set_option linter.all false
namespace Go.Proofs.YtdbgagkcgdlnnaaGreat
open Go Go.VV Go.Proofs Go.RowKit
def b2i (c : Bool) : Int := if c = true then 1 else 0
def fl (z n h c : Bool) : Int := (if z = true then 128 else 0) + (if n = true then 64 else 0) + (if h = true then 32 else 0) + (if c = true then 16 else 0)
def zF (f : Int) : Bool := f / 128 == 1
def nF (f : Int) : Bool := f / 64 % 2 == 1
def hF (f : Int) : Bool := f / 32 % 2 == 1
def cF (f : Int) : Bool := f / 16 % 2 == 1
def nH (a b : Int) (c : Bool) : Int := (a + b + b2i c) % 256
def xQ (a b : Int) (c : Bool) : Int := fl (nH a b c == 0) false (decide (15 < a % 16 + b % 16 + b2i c)) (decide (255 < a + b + b2i c))
def nM (a b : Int) (c : Bool) : Int := (a - b - b2i c) % 256
def oS (a b : Int) (c : Bool) : Int := fl (nM a b c == 0) true (decide (a % 16 < b % 16 + b2i c)) (decide (a < b + b2i c))
def pF (k : Int) (r : Int) : Int := fl (r == 0) false (k == 0) false
def zA (a : Int) : Int := (a + 1) % 256
def aHa (a f : Int) : Int := fl (zA a == 0) false (a % 16 == 15) (cF f)
def zU (a : Int) : Int := (a - 1) % 256
def aHv (a f : Int) : Int := fl (zU a == 0) true (a % 16 == 0) (cF f)
def daaC (a f : Int) : Bool := cF f || (!nF f && decide (153 < a))
def daaL (a f : Int) : Bool := hF f || (!nF f && decide (9 < a % 16))
def fg (x : Int) (b : Bool) : Int := if b = true then x else 0
def daaB (a f : Int) : Int := fg 6 (daaL a f) + fg 96 (daaC a f)
def rI (a f : Int) : Int := if nF f = true then (a - daaB a f) % 256 else (a + daaB a f) % 256
def aH9 (a f : Int) : Int := fl (rI a f == 0) (nF f) false (daaC a f)
def turnO (k a : Int) : Bool := if k % 8 = 6 then false else if k % 8 = 0 ∨ k % 8 = 2 ∨ k % 8 = 4 then a / 128 == 1 else a % 2 == 1
def dQ (k a f : Int) : Int :=
 if k % 8 = 0 then a * 2 % 256 + a / 128 else if k % 8 = 1 then a / 2 + a % 2 * 128 else if k % 8 = 2 then a * 2 % 256 + b2i (cF f) else if k % 8 = 3 then a / 2 + b2i (cF f) * 128
 else if k % 8 = 4 then a * 2 % 256 else if k % 8 = 5 then a / 2 + a / 128 * 128 else if k % 8 = 6 then a % 16 * 16 + a / 16 else a / 2
def gY (k a f : Int) : Int := fl (dQ k a f == 0) false false (turnO k a)
def aHh (n a f : Int) : Int := fl (a / 2 ^ (n % 8).toNat % 2 == 0) false true (cF f)
def rF (a b : Int) : Int := (a + b) % 65536
def vM (a b f : Int) : Int := fl (zF f) false (decide (4095 < a % 4096 + b % 4096)) (decide (65535 < a + b))
def s8 (e : Int) : Int := if 127 < e then e - 256 else e
def shR (a e : Int) : Int := (a + s8 e) % 65536
def shF (a e : Int) : Int := fl false false (decide (15 < a % 16 + e % 16)) (decide (255 < a % 256 + e))
def aEf (z h c : Bool) : bor .u8 (bor .u8 (fg 128 z) (fg 32 h)) (fg 16 c) = fl z false h c := by cases z <;> cases h <;> cases c <;> decide
def aG4 (z h c : Bool) : bor .u8 (bor .u8 (bor .u8 (fg 128 z) 64) (fg 32 h)) (fg 16 c) = fl z true h c := by cases z <;> cases h <;> cases c <;> decide
def aR5 (z : Bool) : bor .u8 (fg 128 z) 32 = fl z false true false := by cases z <;> decide
def aQ5 (z : Bool) : fg 128 z = fl z false false false := by cases z <;> decide
def aQh (z c : Bool) : bor .u8 (bor .u8 (fg 128 z) 32) (fg 16 c) = fl z false true c := by cases z <;> cases c <;> decide
def aRo (z n c : Bool) : bor .u8 (bor .u8 (fg 128 z) (fg 64 n)) (fg 16 c) = fl z n false c := by cases z <;> cases n <;> cases c <;> decide
def or_zc (z c : Bool) : bor .u8 (fg 128 z) (fg 16 c) = fl z false false c := by cases z <;> cases c <;> decide
def aRR (h c : Bool) : bor .u8 (fg 32 h) (fg 16 c) = fl false false h c := by cases h <;> cases c <;> decide
def aEj (x k : Int) (v : Int) : v / k % 2 * x = fg x (v / k % 2 == 1) := by
 unfold fg
 rcases (show v / k % 2 = 0 ∨ v / k % 2 = 1 by omega) with h | h <;> rw [h] <;> simp
def aHc (f : Int) : f / 16 % 2 * 16 = fg 16 (cF f) := aEj 16 16 f
def aSv (f : Int) : f / 64 % 2 * 64 = fg 64 (nF f) := aEj 64 64 f
def aSz {f : Int} (h : 0 ≤ f ∧ f < 256) : f / 128 % 2 * 128 = fg 128 (zF f) := by
 rw [aEj 128 128 f]
 unfold zF
 rw [show f / 128 % 2 = f / 128 by omega]
def aRp (z h c : Bool) : bor .u8 (bor .u8 (fg 128 z) (fg 32 h)) (fg 16 c) = fl z false h c := aEf z h c
def aPu {e : Int} (h : 0 ≤ e ∧ e < 256) : IntKind.wrap .i8 e = s8 e :=
 aW (p := fun e => IntKind.wrap .i8 e = s8 e) y_F h.1 h.2
def aFC (n : Int) (j : Nat) (hj : j < 60) : aG .i64 n (2 ^ j - 1 : Nat) = n % (2 ^ j : Nat) := by
 have h1 : 2 ^ j < 2 ^ 60 := Nat.pow_lt_pow_right y_b hj
 have hp : 0 < 2 ^ j := i6 j
 have h2 : (BitVec.ofInt 64 n &&& BitVec.ofInt 64 ((2 ^ j - 1 : Nat) : Int)).toNat = (n % (2 ^ j : Nat)).toNat := by
  rw [fz, ep, ep]
  have e1 : (((2 ^ j - 1 : Nat) : Int) % ((2 ^ 64 : Nat) : Int)).toNat = 2 ^ j - 1 := by omega
  rw [e1, dx]
  obtain ⟨q, hq⟩ : (2 ^ j : Nat) ∣ 2 ^ 64 := Nat.pow_dvd_pow 2 o_m
  have h3 : n % ((2 ^ 64 : Nat) : Int) % ((2 ^ j : Nat) : Int) = n % ((2 ^ j : Nat) : Int) := Int.emod_emod_of_dvd n (by rw [hq]; exact ⟨q, by push_cast; rfl⟩)
  have h4 : 0 ≤ n % ((2 ^ 64 : Nat) : Int) := eh _ y_b
  rw [← h3, Int.toNat_emod h4 (ic _), bj]
 show IntKind.wrap .i64 ((BitVec.ofInt 64 n &&& BitVec.ofInt 64 ((2 ^ j - 1 : Nat) : Int)).toNat : Int) = _
 rw [h2]
 have h5 : 0 ≤ n % ((2 ^ j : Nat) : Int) := eh _ o_m
 have h6 : n % ((2 ^ j : Nat) : Int) < ((2 ^ j : Nat) : Int) := eq _ o_m
 rw [cu h5]
 exact aI o_m o_m
def aNP (n : Int) : aG .i64 n 7 = n % 8 := aFC n 3 y_b
def aMW (n : Int) {a : Int} (h : 0 ≤ a ∧ a < 256) : 0 ≤ a / 2 ^ (n % 8).toNat ∧ a / 2 ^ (n % 8).toNat < 256 := by
 have hp : 0 < (2 : Int) ^ (n % 8).toNat := fe y_b
 refine ⟨gw h.1 o_m, ?_⟩
 exact Int.lt_of_le_of_lt (gl _ h.1) h.2
def aPy {a m : Int} (h : 0 ≤ m ∧ m < 8) : shr .u8 a m = a / 2 ^ m.toNat := by
 unfold shr
 rw [show min m.toNat (IntKind.bits .u8) = m.toNat from er (by show m.toNat ≤ 8; omega)]
 exact dv _ (g5 (fe y_b))
def aJ5 {p : Int → Bool → Prop} (h : ∀ n : Fin 256, ∀ b : Bool, p (n.val : Int) b) {x : Int} (hx : 0 ≤ x ∧ x < 256) (b : Bool) : p x b := aW (p := fun x => p x b) (fun n => h n b) hx.1 hx.2
def aSe {f : Int} (h : 0 ≤ f ∧ f < 256) : (aG .u8 f 64 != 0) = nF f := aW (p := fun f => (aG .u8 f 64 != 0) = nF f) y_F h.1 h.2
def aR2 {f : Int} (h : 0 ≤ f ∧ f < 256) : (aG .u8 f 32 != 0) = hF f := aW (p := fun f => (aG .u8 f 32 != 0) = hF f) y_F h.1 h.2
def aIi {f : Int} (h : 0 ≤ f ∧ f < 256) : (aG .u8 f 16 != 0) = cF f := aW (p := fun f => (aG .u8 f 16 != 0) = cF f) y_F h.1 h.2
def aNz {f : Int} (h : 0 ≤ f ∧ f < 256) : (aG .u8 f 128 != 0) = zF f := aW (p := fun f => (aG .u8 f 128 != 0) = zF f) y_F h.1 h.2
def aK1 {f : Int} (h : 0 ≤ f ∧ f < 256) : aG .u8 f 16 = fg 16 (cF f) := aW (p := fun f => aG .u8 f 16 = fg 16 (cF f)) y_F h.1 h.2
def aRT (c : Bool) : (fg 16 c != 0) = c := by cases c <;> decide
def or_96 (c : Bool) : bor .u8 (fg 6 c) 96 = fg 6 c + 96 := by cases c <;> decide
def aRX (c : Bool) : shr .u8 (fg 16 c) 4 = b2i c := by cases c <;> decide
def aQg {a : Int} (h : 0 ≤ a ∧ a < 256) (c : Bool) : bor .u8 (a * 2 % 256) (b2i c) = a * 2 % 256 + b2i c := aJ5 (p := fun a c => bor .u8 (a * 2 % 256) (b2i c) = a * 2 % 256 + b2i c) y_F h c
def aO9 {a : Int} (h : 0 ≤ a ∧ a < 256) (c : Bool) : bor .u8 (a / 2) (b2i c * 128) = a / 2 + b2i c * 128 := aJ5 (p := fun a c => bor .u8 (a / 2) (b2i c * 128) = a / 2 + b2i c * 128) y_F h c
def aPG {a : Int} (h : 0 ≤ a ∧ a < 256) : bor .u8 (a / 2) (a % 2 * 128) = a / 2 + a % 2 * 128 := aW (p := fun a => bor .u8 (a / 2) (a % 2 * 128) = a / 2 + a % 2 * 128) y_F h.1 h.2
def aN3 {a : Int} (h : 0 ≤ a ∧ a < 256) : bor .u8 (a / 2) (a / 128 % 2 * 128) = a / 2 + a / 128 * 128 := aW (p := fun a => bor .u8 (a / 2) (a / 128 % 2 * 128) = a / 2 + a / 128 * 128) y_F h.1 h.2
def aSx {a : Int} (h : 0 ≤ a ∧ a < 256) : bor .u8 (shl .u8 a 1) (shr .u8 a 7) = a * 2 % 256 + a / 128 := aW (p := fun a => bor .u8 (shl .u8 a 1) (shr .u8 a 7) = a * 2 % 256 + a / 128) y_F h.1 h.2
def aRV {a : Int} (h : 0 ≤ a ∧ a < 256) : bor .u8 (shl .u8 a 4) (shr .u8 a 4) = a % 16 * 16 + a / 16 := aW (p := fun a => bor .u8 (shl .u8 a 4) (shr .u8 a 4) = a % 16 * 16 + a / 16) y_F h.1 h.2
def x16 {x : Int} (h : x = 0 ∨ x = 1) : x * 16 = fg 16 (x == 1) := by rcases h with rfl | rfl <;> decide
def aB5 (c : Bool) : 0 ≤ b2i c ∧ b2i c ≤ 1 := by cases c <;> decide
def kJ (z n h c : Bool) : 0 ≤ fl z n h c ∧ fl z n h c < 256 := by cases z <;> cases n <;> cases h <;> cases c <;> decide
def kF (z n h c : Bool) : fl z n h c % 16 = 0 := by cases z <;> cases n <;> cases h <;> cases c <;> decide
structure CR where
 a : Int
 f : Int
 b : Int
 c : Int
 d : Int
 e : Int
 h : Int
 l : Int
 sp : Int
 pc : Int
deriving DecidableEq
structure CR.Ok (r : CR) : Prop where
 a : 0 ≤ r.a ∧ r.a < 256
 f : 0 ≤ r.f ∧ r.f < 256
 b : 0 ≤ r.b ∧ r.b < 256
 c : 0 ≤ r.c ∧ r.c < 256
 d : 0 ≤ r.d ∧ r.d < 256
 e : 0 ≤ r.e ∧ r.e < 256
 h : 0 ≤ r.h ∧ r.h < 256
 l : 0 ≤ r.l ∧ r.l < 256
 sp : 0 ≤ r.sp ∧ r.sp < 65536
 pc : 0 ≤ r.pc ∧ r.pc < 65536
def cR (r : CR) : AA := [.int .u8 r.a, .int .u8 r.f, .int .u8 r.b, .int .u8 r.c, .int .u8 r.d, .int .u8 r.e, .int .u8 r.h, .int .u8 r.l, .int .u16 r.sp, .int .u16 r.pc]
def r0 : CR := ⟨0, 0, 0, 0, 0, 0, 0, 0, 0, 0⟩
def yZ (r : CR) (n : Int) : Int := if n = 0 then r.b else if n = 1 then r.c else if n = 2 then r.d else if n = 3 then r.e else if n = 4 then r.h else if n = 5 then r.l else if n = 7 then r.a else 0
def lM (r : CR) (n x : Int) : CR :=
 if n = 0 then { r with b := x } else if n = 1 then { r with c := x } else if n = 2 then { r with d := x } else if n = 3 then { r with e := x } else if n = 4 then { r with h := x } else if n = 5 then { r with l := x } else if n = 7 then { r with a := x } else r0
def bD (r : CR) (n : Int) : Int := if n = 0 then r.b * 256 + r.c else if n = 1 then r.d * 256 + r.e else if n = 2 then r.h * 256 + r.l else if n = 3 then r.sp else if n = 4 then r.a * 256 + r.f / 16 * 16 else 0
def dZ (r : CR) (n x : Int) : CR :=
 if n = 0 then { r with b := x / 256, c := x % 256 } else if n = 1 then { r with d := x / 256, e := x % 256 } else if n = 2 then { r with h := x / 256, l := x % 256 } else if n = 3 then { r with sp := x }
 else if n = 4 then { r with a := x / 256, f := x % 256 / 16 * 16 } else r0
def isR (r : CR) (n : Int) : Bool := if n = 0 then !zF r.f else if n = 1 then zF r.f else if n = 2 then !cF r.f else if n = 3 then cF r.f else n == 4
def atL (rb : Nat) : AA := [.pointer (some ⟨rb, 2, none⟩), .pointer (some ⟨rb, 3, none⟩), .pointer (some ⟨rb, 4, none⟩), .pointer (some ⟨rb, 5, none⟩), .pointer (some ⟨rb, 6, none⟩), .pointer (some ⟨rb, 7, none⟩), .pointer none, P_ rb]
def atV (rb : Nat) (n : Int) : AH := if n < 0 ∨ 8 ≤ n then .pointer none else (atL rb).getD n.toNat (.pointer none)
def NoR (n : Int) : Prop := n < 0 ∨ n = 6 ∨ 8 ≤ n
def aDr (n : Int) : n = 0 ∨ n = 1 ∨ n = 2 ∨ n = 3 ∨ n = 4 ∨ n = 5 ∨ n = 7 ∨ NoR n := by unfold NoR; omega
def aI3 {n : Int} (h : NoR n) (rb : Nat) : atV rb n = .pointer none := by
 unfold NoR at h
 rcases h with h | h | h
 ·unfold atV; rw [if_pos (.inl h)]
 ·subst h; rfl
 ·unfold atV; rw [if_pos (.inr h)]
def aOF {n : Int} (h : NoR n) (r : CR) : yZ r n = 0 := by unfold NoR at h; unfold yZ; repeat rw [if_neg o_m]
def aN8 {n : Int} (h : NoR n) (r : CR) (x : Int) : lM r n x = r0 := by unfold NoR at h; unfold lM; repeat rw [if_neg o_m]
def aFr {n : Int} (h : n < 0 ∨ 4 < n) (r : CR) : bD r n = 0 := by unfold bD; repeat rw [if_neg o_m]
def setPR_no {n : Int} (h : n < 0 ∨ 4 < n) (r : CR) (x : Int) : dZ r n x = r0 := by unfold dZ; repeat rw [if_neg o_m]
def rG {h l : Int} (hh : 0 ≤ h ∧ h < 256) (hl : 0 ≤ l ∧ l < 256) : bor .u16 (h * 256) l = h * 256 + l := by
 have e : ∀ x y : Int, bor .u16 x y = bor .u16 y x := fun x y => by unfold bor; rw [BitVec.or_comm]
 have := aFk hl hh
 rw [e, show shl .u16 h 8 = h * 256 by unfold shl; exact eV (by show 0 ≤ h * 2 ^ 8; omega) (by show h * 2 ^ 8 < 65536; omega)] at this
 omega
def aPP {x : Nat} (h : x < 65536) : x &&& 65520 = x / 16 * 16 := by
 apply gx
 intro i
 rw [i7, show x / 16 * 16 = (x >>> 4) <<< 4 by rw [iq, i2], fp, Nat.testBit_shiftRight]
 have hb : ∀ i, i < 16 → Nat.testBit 65520 i = decide (4 ≤ i) := by decide
 by_cases hi : i < 16
 ·rw [hb i hi]
  by_cases h4 : 4 ≤ i
  ·rw [show 4 + (i - 4) = i by omega]; simp [h4]
  ·simp [h4]
 ·have hx : x.testBit i = false := Nat.testBit_lt_two_pow (de h (show 2 ^ 16 ≤ 2 ^ i from ez y_b o_m))
  rw [show 4 + (i - 4) = i by omega, hx]; simp
def aQr {x : Int} (h : 0 ≤ x ∧ x < 65536) : iO .u16 x 15 = x / 16 * 16 := by
 obtain ⟨m, rfl⟩ : ∃ m : Nat, x = m := ⟨x.toNat, y_B⟩
 have h1 : (BitVec.ofInt 16 (m : Int) &&& ~~~BitVec.ofInt 16 15).toNat = m / 16 * 16 := by
  rw [fz, show (~~~BitVec.ofInt 16 15).toNat = 65520 by decide, show (BitVec.ofInt 16 (m : Int)).toNat = m by rw [ep]; omega]
  exact aPP o_m
 show IntKind.wrap .u16 ((BitVec.ofInt 16 (m : Int) &&& ~~~BitVec.ofInt 16 15).toNat : Int) = _
 rw [h1]
 exact (eV o_m o_m).trans o_m
def aSu {f : Int} (h : 0 ≤ f ∧ f < 256) : aG .u8 f 240 = f / 16 * 16 := aW (p := fun f => aG .u8 f 240 = f / 16 * 16) y_F h.1 h.2
def aIX {n : Int} (h : n = 0 ∨ n = 1) (r : CR) : (zF r.f == (n == 1)) = isR r n := by
 rcases h with rfl | rfl
 ·show (zF r.f == false) = !zF r.f; cases zF r.f <;> rfl
 ·show (zF r.f == true) = zF r.f; cases zF r.f <;> rfl
def aKU {n : Int} (h : n = 2 ∨ n = 3) (r : CR) : (cF r.f == (n == 3)) = isR r n := by
 rcases h with rfl | rfl
 ·show (cF r.f == false) = !cF r.f; cases cF r.f <;> rfl
 ·show (cF r.f == true) = cF r.f; cases cF r.f <;> rfl
def aSt {n : Int} (h0 : n ≠ 0) (h1 : n ≠ 1) (h2 : n ≠ 2) (h3 : n ≠ 3) (r : CR) : (n == 4) = isR r n := by unfold isR; rw [if_neg h0, if_neg h1, if_neg h2, if_neg h3]
def hiO (n : Int) : Nat := if n = 0 then 2 else if n = 1 then 4 else if n = 2 then 6 else 0
def loO (n : Int) : Nat := if n = 0 then 3 else if n = 1 then 5 else if n = 2 then 7 else 1
def aNA : r0.Ok := ⟨y_et, y_et, y_et, y_et, y_et, y_et, y_et, y_et, y_et, y_et⟩
def aKu {r : CR} (h : r.Ok) (n : Int) : 0 ≤ yZ r n ∧ yZ r n < 256 := by
 have h1 := h.a; have h2 := h.b; have h3 := h.c; have h4 := h.d; have h5 := h.e; have h6 := h.h; have h7 := h.l
 unfold yZ; repeat' split
 all_goals omega
def eW {r : CR} (h : r.Ok) (n : Int) : 0 ≤ bD r n ∧ bD r n < 65536 := by
 have h1 := h.a; have h2 := h.b; have h3 := h.c; have h4 := h.d; have h5 := h.e; have h6 := h.h; have h7 := h.l; have h8 := h.f; have h9 := h.sp
 unfold bD; repeat' split
 all_goals omega
def CR.Ok.set {r : CR} (h : r.Ok) (n : Int) {x : Int} (hx : 0 ≤ x ∧ x < 256) : (lM r n x).Ok := by
 unfold lM; repeat' split
 all_goals first | exact aNA | exact ⟨hx, h.f, h.b, h.c, h.d, h.e, h.h, h.l, h.sp, h.pc⟩ | exact ⟨h.a, h.f, hx, h.c, h.d, h.e, h.h, h.l, h.sp, h.pc⟩ | exact ⟨h.a, h.f, h.b, hx, h.d, h.e, h.h, h.l, h.sp, h.pc⟩ | exact ⟨h.a, h.f, h.b, h.c, hx, h.e, h.h, h.l, h.sp, h.pc⟩ | exact ⟨h.a, h.f, h.b, h.c, h.d, hx, h.h, h.l, h.sp, h.pc⟩ | exact ⟨h.a, h.f, h.b, h.c, h.d, h.e, hx, h.l, h.sp, h.pc⟩ | exact ⟨h.a, h.f, h.b, h.c, h.d, h.e, h.h, hx, h.sp, h.pc⟩
def CR.Ok.setP {r : CR} (h : r.Ok) (n : Int) {x : Int} (hx : 0 ≤ x ∧ x < 65536) : (dZ r n x).Ok := by
 have hh : 0 ≤ x / 256 ∧ x / 256 < 256 := by omega
 have hl : 0 ≤ x % 256 ∧ x % 256 < 256 := by omega
 have hf : 0 ≤ x % 256 / 16 * 16 ∧ x % 256 / 16 * 16 < 256 := by omega
 unfold dZ; repeat' split
 all_goals first | exact aNA | exact ⟨h.a, h.f, hh, hl, h.d, h.e, h.h, h.l, h.sp, h.pc⟩ | exact ⟨h.a, h.f, h.b, h.c, hh, hl, h.h, h.l, h.sp, h.pc⟩ | exact ⟨h.a, h.f, h.b, h.c, h.d, h.e, hh, hl, h.sp, h.pc⟩ | exact ⟨h.a, h.f, h.b, h.c, h.d, h.e, h.h, h.l, hx, h.pc⟩ | exact ⟨hh, hf, h.b, h.c, h.d, h.e, h.h, h.l, h.sp, h.pc⟩
structure CS where
 r : CR
 ime : Bool
 soon : Bool
 halt : Bool
 stop : Bool
deriving DecidableEq
def cS (s : CS) : AA := cR s.r ++ [.bool s.ime, .bool s.soon, .bool s.halt, .bool s.stop]
structure Dd where
 what : Int
 n : Int
 at_ : Int
 op : Opr
 taken : Bool
def oN : Opr := ⟨0, 0, 0, 0, 0⟩
def cDd (d : Dd) : AA := [.int .i64 d.what, .int .i64 d.n, .int .u16 d.at_] ++ cO d.op ++ [.bool d.taken]
structure aSX (β : Type) where
 fetch : Int → β → Int × β
 read : Int → β → Int × β
 write : Int → Int → β → β
 idle : β → β
 pend : β → Int
 ack : Int → β → β
structure Rn (β : Type) where
 s : CS
 m : β
def bJ (w : Int) : Int := (w + 1) % 65536
def kZ (w : Int) : Int := (w - 1) % 65536
def qD (v n : Int) : Int := v - v / 2 ^ n.toNat % 2 * 2 ^ n.toNat
def uX (v n : Int) : Int := v + (1 - v / 2 ^ n.toNat % 2) * 2 ^ n.toNat
def iA (r : CR) (k b : Int) : CR :=
 if k = 0 then { r with a := nH r.a b false, f := xQ r.a b false } else if k = 1 then { r with a := nH r.a b (cF r.f), f := xQ r.a b (cF r.f) }
 else if k = 2 then { r with a := nM r.a b false, f := oS r.a b false } else if k = 3 then { r with a := nM r.a b (cF r.f), f := oS r.a b (cF r.f) }
 else if k = 4 then { r with a := aG .u8 r.a b, f := pF 0 (aG .u8 r.a b) } else if k = 5 then { r with a := jZ .u8 r.a b, f := pF 2 (jZ .u8 r.a b) }
 else if k = 6 then { r with a := bor .u8 r.a b, f := pF 1 (bor .u8 r.a b) } else if k = 7 then { r with f := oS r.a b false } else r
section
variable {β : Type}
def Rn.reg (x : Rn β) (r : CR) : Rn β := ⟨{ x.s with r := r }, x.m⟩
def Rn.mem (x : Rn β) (m : β) : Rn β := ⟨x.s, m⟩
variable (A : aSX β)
def gett (n : Int) (x : Rn β) : Int × Rn β := if n = 6 then ((A.read (bD x.s.r 2) x.m).1, x.mem (A.read (bD x.s.r 2) x.m).2) else (yZ x.s.r n, x)
def sett (n v : Int) (x : Rn β) : Rn β := if n = 6 then x.mem (A.write (bD x.s.r 2) v x.m) else x.reg (lM x.s.r n v)
def push1 (v : Int) (x : Rn β) : Rn β := ⟨{ x.s with r := { x.s.r with sp := kZ x.s.r.sp } }, A.write (kZ x.s.r.sp) v x.m⟩
def push (w : Int) (x : Rn β) : Rn β := push1 A (w % 256) (push1 A (w / 256) x)
def pop1 (x : Rn β) : Int × Rn β := ((A.read x.s.r.sp x.m).1, ⟨{ x.s with r := { x.s.r with sp := bJ x.s.r.sp } }, (A.read x.s.r.sp x.m).2⟩)
def pop (x : Rn β) : Int × Rn β := ((pop1 A (pop1 A x).2).1 * 256 + (pop1 A x).1, (pop1 A (pop1 A x).2).2)
def idles : Nat → Rn β → Rn β
 | 0, x => x
 | n + 1, x => (idles n x).mem (A.idle (idles n x).m)
def change (n : Int) (g : Int → Int → Int × Int) (x : Rn β) : Rn β :=
 let q := gett A n x
 let y := sett A n (g q.1 q.2.s.r.f).1 q.2
 y.reg { y.s.r with f := (g q.1 q.2.s.r.f).2 }
def far (n : Int) (x : Rn β) : Int × Rn β :=
 if n < 2 then (bD x.s.r n, x) else (bD x.s.r 2, x.reg (dZ x.s.r 2 (if n = 2 then bJ (bD x.s.r 2) else kZ (bD x.s.r 2))))
def goto (w : Int) (x : Rn β) : Rn β := x.reg { x.s.r with pc := w }
def isB (k : Int) : Bool := decide (k = 7 ∨ k = 8 ∨ (10 ≤ k ∧ k ≤ 13) ∨ (17 ≤ k ∧ k ≤ 22) ∨ (44 ≤ k ∧ k ≤ 46))
def eF (o : Opr) (x : Rn β) : Rn β :=
 if o.kind = 7 then sett A o.x (gett A o.y x).1 (gett A o.y x).2
 else if o.kind = 8 then sett A o.x (o.n % 256) x
 else if o.kind = 10 then (gett A o.y x).2.reg (iA (gett A o.y x).2.s.r o.x (gett A o.y x).1)
 else if o.kind = 11 then x.reg (iA x.s.r o.x (o.n % 256))
 else if o.kind = 12 then change A o.x (fun v f => (zA v, aHa v f)) x
 else if o.kind = 13 then change A o.x (fun v f => (zU v, aHv v f)) x
 else if o.kind = 17 then change A o.y (fun v f => (dQ o.x v f, gY o.x v f)) x
 else if o.kind = 18 then x.reg { x.s.r with a := dQ o.x x.s.r.a x.s.r.f, f := fl false false false (turnO o.x x.s.r.a) }
 else if o.kind = 44 then (gett A o.y x).2.reg { (gett A o.y x).2.s.r with f := aHh o.x (gett A o.y x).1 x.s.r.f }
 else if o.kind = 45 then sett A o.y (qD (gett A o.y x).1 o.x) (gett A o.y x).2
 else if o.kind = 46 then sett A o.y (uX (gett A o.y x).1 o.x) (gett A o.y x).2
 else if o.kind = 19 then x.reg { x.s.r with a := rI x.s.r.a x.s.r.f, f := aH9 x.s.r.a x.s.r.f }
 else if o.kind = 20 then x.reg { x.s.r with a := 255 - x.s.r.a, f := fl (zF x.s.r.f) true true (cF x.s.r.f) }
 else if o.kind = 21 then x.reg { x.s.r with f := fl (zF x.s.r.f) false false true }
 else if o.kind = 22 then x.reg { x.s.r with f := fl (zF x.s.r.f) false false (!cF x.s.r.f) }
 else x
def isW (k : Int) : Bool := decide (k = 9 ∨ (14 ≤ k ∧ k ≤ 16) ∨ k = 30 ∨ k = 31 ∨ (40 ≤ k ∧ k ≤ 43))
def gJ (o : Opr) (x : Rn β) : Rn β :=
 if o.kind = 9 then x.reg (dZ x.s.r o.x o.n)
 else if o.kind = 14 then idles A 1 (x.reg (dZ x.s.r o.x (bJ (bD x.s.r o.x))))
 else if o.kind = 15 then idles A 1 (x.reg (dZ x.s.r o.x (kZ (bD x.s.r o.x))))
 else if o.kind = 16 then idles A 1 (x.reg (dZ { x.s.r with f := vM (bD x.s.r 2) (bD x.s.r o.x) x.s.r.f } 2 (rF (bD x.s.r 2) (bD x.s.r o.x))))
 else if o.kind = 41 then idles A 2 (x.reg { x.s.r with sp := shR x.s.r.sp (o.n % 256), f := shF x.s.r.sp (o.n % 256) })
 else if o.kind = 42 then idles A 1 (x.reg (dZ { x.s.r with f := shF x.s.r.sp (o.n % 256) } 2 (shR x.s.r.sp (o.n % 256))))
 else if o.kind = 43 then idles A 1 (x.reg { x.s.r with sp := bD x.s.r 2 })
 else if o.kind = 30 then push A (bD (idles A 1 x).s.r o.x) (idles A 1 x)
 else if o.kind = 31 then (pop A x).2.reg (dZ (pop A x).2.s.r o.x (pop A x).1)
 else if o.kind = 40 then x.mem (A.write (bJ o.n) (x.s.r.sp / 256) (A.write o.n (x.s.r.sp % 256) x.m))
 else x
def isP (k : Int) : Bool := decide (32 ≤ k ∧ k ≤ 39)
def place (o : Opr) (x : Rn β) : Int × Rn β :=
 if o.kind = 32 ∨ o.kind = 33 then far o.x x else if o.kind = 34 ∨ o.kind = 35 then (65280 + o.n % 256, x) else if o.kind = 36 ∨ o.kind = 37 then (65280 + x.s.r.c, x) else (o.n, x)
def jC (o : Opr) (x : Rn β) : Rn β :=
 let p := place o x
 if o.kind = 32 ∨ o.kind = 34 ∨ o.kind = 36 ∨ o.kind = 38 then ⟨{ p.2.s with r := { p.2.s.r with a := (A.read p.1 p.2.m).1 } }, (A.read p.1 p.2.m).2⟩
 else p.2.mem (A.write p.1 p.2.s.r.a p.2.m)
def metJ (o : Opr) (x : Rn β) : Bool := !(decide (23 ≤ o.kind ∧ o.kind ≤ 26)) || isR x.s.r o.x
def effJ (o : Opr) (x0 : Rn β) : Rn β :=
 let x := if o.kind = 26 ∧ o.x ≠ 4 then idles A 1 x0 else x0
 if metJ o x0 = false then x
 else if o.kind = 23 then goto ((x.s.r.pc + s8 (o.n % 256)) % 65536) (idles A 1 x)
 else if o.kind = 24 then goto o.n (idles A 1 x)
 else if o.kind = 25 ∨ o.kind = 28 then goto o.n (push A x.s.r.pc (idles A 1 x))
 else if o.kind = 27 then idles A 1 (goto (pop A ⟨{ x.s with ime := true }, x.m⟩).1 (pop A ⟨{ x.s with ime := true }, x.m⟩).2)
 else if o.kind = 26 then idles A 1 (goto (pop A x).1 (pop A x).2)
 else if o.kind = 29 then goto (bD x.s.r 2) x
 else x
def ordT (o : Opr) (at_ : Int) (x : Rn β) : Bool × Rn β :=
 if o.kind = 2 then (true, ⟨{ x.s with stop := true }, x.m⟩)
 else if o.kind = 3 then (true, ⟨{ x.s with halt := true }, x.m⟩)
 else if o.kind = 4 then (true, goto at_ x)
 else if o.kind = 5 then (true, ⟨{ x.s with ime := false }, x.m⟩)
 else if o.kind = 6 then (true, ⟨{ x.s with soon := true }, x.m⟩)
 else if isB o.kind = true then (true, eF A o x)
 else if isW o.kind = true then (true, gJ A o x)
 else if isP o.kind = true then (true, jC A o x)
 else (metJ o x, effJ A o x)
def fetch1 (x : Rn β) : Int × Rn β := ((A.fetch x.s.r.pc x.m).1, ⟨{ x.s with r := { x.s.r with pc := bJ x.s.r.pc } }, (A.fetch x.s.r.pc x.m).2⟩)
structure Nx (β : Type) where
 b : AB
 o : Opr
 x : Rn β
def nx1 (q : Nx β) (i : Nat) : Nx β :=
 let p := fetch1 A q.x
 let b := q.b.set i p.1
 ⟨b, dcd (b.getD 0 0) (b.getD 1 0) (b.getD 2 0), p.2⟩
def nx0 (x : Rn β) : Nx β := ⟨[0, 0, 0], ⟨0, 0, 0, 1, 0⟩, x⟩
def nxN (x : Rn β) : Nat → Nx β
 | 0 => nx0 x
 | n + 1 => nx1 A (nxN x n) n
def nextT (x : Rn β) : Opr × Rn β :=
 if ((nxN A x 1).o.size ≤ 1) then ((nxN A x 1).o, (nxN A x 1).x) else if ((nxN A x 2).o.size ≤ 2) then ((nxN A x 2).o, (nxN A x 2).x) else ((nxN A x 3).o, (nxN A x 3).x)
def jJ (p : Int) : Int := if p % 2 = 1 then 0 else if p / 2 % 2 = 1 then 1 else if p / 4 % 2 = 1 then 2 else if p / 8 % 2 = 1 then 3 else 4
def qG (p : Int) (x : Rn β) : Rn β :=
 let y := push A x.s.r.pc (idles A 2 x)
 let z := idles A 1 (y.mem (A.ack (jJ p) y.m))
 ⟨{ z.s with ime := false, soon := false, r := { z.s.r with pc := 64 + 8 * jJ p } }, z.m⟩
def bW (x : Rn β) : Dd × Rn β :=
 if x.s.stop = true then (⟨0, 0, x.s.r.pc, oN, false⟩, ⟨{ x.s with stop := A.pend (A.idle x.m) / 16 % 2 == 0 }, A.idle x.m⟩)
 else if x.s.halt = true ∧ A.pend x.m = 0 then (⟨0, 0, x.s.r.pc, oN, false⟩, x.mem (A.idle x.m))
 else
  let y : Rn β := ⟨{ x.s with halt := false }, x.m⟩
  if x.s.ime = true ∧ A.pend x.m ≠ 0 then (⟨2, jJ (A.pend x.m), x.s.r.pc, oN, false⟩, qG A (A.pend x.m) y)
  else
   let q := nextT A ⟨{ y.s with soon := false }, y.m⟩
   let t := ordT A q.1 x.s.r.pc q.2
   (⟨1, 0, x.s.r.pc, q.1, t.1⟩, if x.s.soon = true ∧ q.1.kind ≠ 5 then ⟨{ t.2.s with ime := true }, t.2.m⟩ else t.2)
end
structure aSY (β : Type) extends aSX β where
 ok : Nat → β → Prop
 oF : ∀ {n : Nat} {m : β} {a : Int}, ok (n + 1) m → 0 ≤ a ∧ a < 65536 → ok n (fetch a m).2 ∧ 0 ≤ (fetch a m).1 ∧ (fetch a m).1 < 256
 oR : ∀ {n : Nat} {m : β} {a : Int}, ok (n + 1) m → 0 ≤ a ∧ a < 65536 → ok n (read a m).2 ∧ 0 ≤ (read a m).1 ∧ (read a m).1 < 256
 oW : ∀ {n : Nat} {m : β} {a x : Int}, ok (n + 1) m → 0 ≤ a ∧ a < 65536 → 0 ≤ x ∧ x < 256 → ok n (write a x m)
 oI : ∀ {n : Nat} {m : β}, ok (n + 1) m → ok n (idle m)
 oP : ∀ {n : Nat} {m : β}, ok n m → 0 ≤ pend m ∧ pend m < 32
 oA : ∀ {k : Nat} {m : β} {n : Int}, ok k m → 0 ≤ n ∧ n < 5 → ok k (ack n m)
 oL : ∀ {n k : Nat} {m : β}, ok n m → k ≤ n → ok k m
structure jV (P : AL) (β : Type) extends aSY β where
 t0 : AJ
 v : AH
 rep : β → aB → Prop
 fF : Nat
 fR : Nat
 fW : Nat
 fI : Nat
 fP : Nat
 fA : Nat
 mF : wD P t0 "Fetch" fF
 mR : wD P t0 "Read" fR
 mW : wD P t0 "Write" fW
 mI : wD P t0 "Idle" fI
 mP : wD P t0 "Pending" fP
 mA : wD P t0 "Ack" fA
 cF : cL P fF = true
 cR : cL P fR = true
 cW : cL P fW = true
 cI : cL P fI = true
 cP : cL P fP = true
 cA : cL P fA = true
 dF : ∀ {n : Nat} {m : β} {H : aB} {w : AI} {a : Int}, ok (n + 1) m → rep m H → St w (H.map (·.1)) H w → 0 ≤ a ∧ a < 65536 → aC P fF [v, .int .u16 a] w (H.map (·.1)) (fun u H' => u = .int .u8 (fetch a m).1 ∧ rep (fetch a m).2 H')
 dR : ∀ {n : Nat} {m : β} {H : aB} {w : AI} {a : Int}, ok (n + 1) m → rep m H → St w (H.map (·.1)) H w → 0 ≤ a ∧ a < 65536 → aC P fR [v, .int .u16 a] w (H.map (·.1)) (fun u H' => u = .int .u8 (read a m).1 ∧ rep (read a m).2 H')
 dW : ∀ {n : Nat} {m : β} {H : aB} {w : AI} {a x : Int}, ok (n + 1) m → rep m H → St w (H.map (·.1)) H w → 0 ≤ a ∧ a < 65536 → 0 ≤ x ∧ x < 256 → aC P fW [v, .int .u16 a, .int .u8 x] w (H.map (·.1)) (fun u H' => u = .tuple #[] ∧ rep (write a x m) H')
 dI : ∀ {n : Nat} {m : β} {H : aB} {w : AI}, ok (n + 1) m → rep m H → St w (H.map (·.1)) H w → aC P fI [v] w (H.map (·.1)) (fun u H' => u = .tuple #[] ∧ rep (idle m) H')
 dP : ∀ {n : Nat} {m : β} {H : aB} {w : AI}, ok n m → rep m H → St w (H.map (·.1)) H w → aC P fP [v] w (H.map (·.1)) (fun u H' => u = .int .u8 (pend m) ∧ H' = H)
 dA : ∀ {k : Nat} {m : β} {H : aB} {w : AI} {n : Int}, ok k m → rep m H → St w (H.map (·.1)) H w → 0 ≤ n ∧ n < 5 → aC P fA [v, .int .i64 n] w (H.map (·.1)) (fun u H' => u = .tuple #[] ∧ rep (ack n m) H')
instance {P : AL} {β : Type} : CoeOut (jV P β) (aSY β) := ⟨fun K => K.toaSY⟩
section
variable {P : AL} {β : Type} (K : jV P β)
def cN (s : CS) : AA := cS s ++ [.iface K.t0 K.v]
def pC (rb : Nat) (x : Rn β) (H : aB) : Prop := ∃ G, H = (rb, blk (cN K x.s) 179) :: G ∧ K.rep x.m G
def zS (w : Int) (i : Nat) : Int := if i = 0 then w / 256 else w % 256
def pushN (A : aSX β) (w : Int) (x : Rn β) : Nat → Rn β
 | 0 => x
 | i + 1 => push1 A (zS w i) (pushN A w x i)
def aHV (w : Int) {i : Nat} (h : i < 2) : ([.int .u8 (w / 256), .int .u8 (w % 256)] : AA)[0 + i]? = some (.int .u8 (zS w i)) := by
 match i, h with
 | 0, _ => rfl
 | 1, _ => rfl
def aDi {w : Int} (h : 0 ≤ w ∧ w < 65536) (i : Nat) : 0 ≤ zS w i ∧ zS w i < 256 := by unfold zS; split <;> omega
def popN (A : aSX β) (x : Rn β) : Nat → Int × Rn β
 | 0 => (0, x)
 | i + 1 => ((popN A x i).1 + (pop1 A (popN A x i).2).1 * (if i = 0 then 1 else 256), (pop1 A (popN A x i).2).2)
end
section
variable {β : Type} (K : aSY β)
structure RunOk (n : Nat) (x : Rn β) : Prop where
 r : x.s.r.Ok
 m : K.ok n x.m
end
section
variable {β : Type} {K : aSY β} {x : Rn β} {n : Nat}
def RunOk.le {k : Nat} (h : RunOk K n x) (hk : k ≤ n) : RunOk K k x := ⟨h.r, K.oL h.m hk⟩
def RunOk.reg (h : RunOk K n x) {r : CR} (hr : r.Ok) : RunOk K n (x.reg r) := ⟨hr, h.m⟩
def RunOk.mem (h : RunOk K n x) {k : Nat} {m : β} (hm : K.ok k m) : RunOk K k (x.mem m) := ⟨h.r, hm⟩
def lA {w : Int} : 0 ≤ bJ w ∧ bJ w < 65536 := by unfold bJ; omega
def lW {w : Int} : 0 ≤ kZ w ∧ kZ w < 65536 := by unfold kZ; omega
def CR.Ok.sp_ {r : CR} (h : r.Ok) {w : Int} (hw : 0 ≤ w ∧ w < 65536) : ({ r with sp := w } : CR).Ok := ⟨h.a, h.f, h.b, h.c, h.d, h.e, h.h, h.l, hw, h.pc⟩
def CR.Ok.pc_ {r : CR} (h : r.Ok) {w : Int} (hw : 0 ≤ w ∧ w < 65536) : ({ r with pc := w } : CR).Ok := ⟨h.a, h.f, h.b, h.c, h.d, h.e, h.h, h.l, h.sp, hw⟩
def CR.Ok.f_ {r : CR} (h : r.Ok) {w : Int} (hw : 0 ≤ w ∧ w < 256) : ({ r with f := w } : CR).Ok := ⟨h.a, hw, h.b, h.c, h.d, h.e, h.h, h.l, h.sp, h.pc⟩
def CR.Ok.a_ {r : CR} (h : r.Ok) {w : Int} (hw : 0 ≤ w ∧ w < 256) : ({ r with a := w } : CR).Ok := ⟨hw, h.f, h.b, h.c, h.d, h.e, h.h, h.l, h.sp, h.pc⟩
def RunOk.gett (h : RunOk K (n + 1) x) (k : Int) : RunOk K n (gett K.toaSX k x).2 ∧ 0 ≤ (gett K.toaSX k x).1 ∧ (gett K.toaSX k x).1 < 256 := by
 unfold Go.Proofs.YtdbgagkcgdlnnaaGreat.gett
 split
 ·have := K.oR h.m (eW h.r 2)
  exact ⟨h.mem this.1, this.2⟩
 ·exact ⟨h.le o_m, aKu h.r k⟩
def aJ7 (k : Int) : (gett K.toaSX k x).2.s = x.s := by
 unfold Go.Proofs.YtdbgagkcgdlnnaaGreat.gett; split <;> rfl
def nQ (k : Int) : (gett K.toaSX k x).2 = x.mem (gett K.toaSX k x).2.m := by
 unfold Go.Proofs.YtdbgagkcgdlnnaaGreat.gett; split <;> rfl
def RunOk.gmem (h : RunOk K (n + 1) x) (k : Int) : RunOk K n (x.mem (Go.Proofs.YtdbgagkcgdlnnaaGreat.gett K.toaSX k x).2.m) := by rw [← nQ]; exact (h.gett k).1
def aCz {a v : Int} {i : Nat} (hi : i < 2) (ha : 0 ≤ a ∧ a < 256) (hz : i = 0 → a = 0) (hv : 0 ≤ v ∧ v < 256) : bor .u16 a (shl .u16 v (8 * (i : Int))) = a + v * (if i = 0 then 1 else 256) := by
 match i, hi with
 | 0, _ =>
  obtain rfl := hz rfl
  rw [if_pos rfl]
  have e : shl .u16 v (8 * ((0 : Nat) : Int)) = v := by unfold shl; exact (eV (by show 0 ≤ v * 2 ^ 0; omega) (by show v * 2 ^ 0 < 65536; omega)).trans (by show v * 2 ^ 0 = v; omega)
  rw [e]
  have := rG (h := 0) (l := v) y_b hv
  simpa using this
 | 1, _ =>
  rw [if_neg y_b]
  have := aFk ha hv
  rw [show (8 * ((1 : Nat) : Int)) = 8 by rfl, this]
  omega
def RunOk.far (h : RunOk K n x) (k : Int) : RunOk K n (Go.Proofs.YtdbgagkcgdlnnaaGreat.far k x).2 ∧ 0 ≤ (Go.Proofs.YtdbgagkcgdlnnaaGreat.far k x).1 ∧ (Go.Proofs.YtdbgagkcgdlnnaaGreat.far k x).1 < 65536 := by
 unfold Go.Proofs.YtdbgagkcgdlnnaaGreat.far
 split
 ·exact ⟨h, eW h.r k⟩
 ·refine ⟨h.reg (h.r.setP 2 ?_), eW h.r 2⟩
  split
  ·exact lA
  ·exact lW
def RunOk.sett (h : RunOk K (n + 1) x) (k : Int) {v : Int} (hv : 0 ≤ v ∧ v < 256) : RunOk K n (sett K.toaSX k v x) := by
 unfold Go.Proofs.YtdbgagkcgdlnnaaGreat.sett
 split
 ·exact h.mem (K.oW h.m (eW h.r 2) hv)
 ·exact (h.le o_m).reg (h.r.set k hv)
def RunOk.push1 (h : RunOk K (n + 1) x) {v : Int} (hv : 0 ≤ v ∧ v < 256) : RunOk K n (push1 K.toaSX v x) := ⟨h.r.sp_ lW, K.oW h.m lW hv⟩
def RunOk.push (h : RunOk K (n + 2) x) {w : Int} (hw : 0 ≤ w ∧ w < 65536) : RunOk K n (push K.toaSX w x) := (h.push1 (v := w / 256) o_m).push1 (v := w % 256) o_m
def RunOk.pop1 (h : RunOk K (n + 1) x) : RunOk K n (pop1 K.toaSX x).2 ∧ 0 ≤ (pop1 K.toaSX x).1 ∧ (pop1 K.toaSX x).1 < 256 := by
 have := K.oR h.m h.r.sp
 exact ⟨⟨h.r.sp_ lA, this.1⟩, this.2⟩
def RunOk.pop (h : RunOk K (n + 2) x) : RunOk K n (pop K.toaSX x).2 ∧ 0 ≤ (pop K.toaSX x).1 ∧ (pop K.toaSX x).1 < 65536 := by
 have h1 := h.pop1
 have h2 := h1.1.pop1
 refine ⟨h2.1, ?_⟩
 unfold Go.Proofs.YtdbgagkcgdlnnaaGreat.pop
 dsimp only
 omega
def RunOk.pushN (h : RunOk K (n + 2) x) {w : Int} (hw : 0 ≤ w ∧ w < 65536) : ∀ i, i ≤ 2 → RunOk K (n + (2 - i)) (pushN K.toaSX w x i)
 | 0, _ => h
 | i + 1, hi => RunOk.push1 ((h.pushN hw i o_m).le o_m) (aDi hw i)
def RunOk.popN (h : RunOk K (n + 2) x) : ∀ i, i ≤ 2 → RunOk K (n + (2 - i)) (popN K.toaSX x i).2
 | 0, _ => h
 | i + 1, hi => (RunOk.pop1 ((h.popN i o_m).le o_m)).1
def aFb : popN K.toaSX x 2 = pop K.toaSX x := by
 unfold Go.Proofs.YtdbgagkcgdlnnaaGreat.pop
 simp only [Go.Proofs.YtdbgagkcgdlnnaaGreat.popN]
 simp only [if_true, Int.zero_add, Int.mul_one]
 rw [if_neg y_b, Int.add_comm]
def aN2 (h : RunOk K (n + 1) x) {i : Nat} (hi : i < 2) : 0 ≤ (popN K.toaSX x i).1 ∧ (popN K.toaSX x i).1 < 256 := by
 match i, hi with
 | 0, _ => exact ⟨gi 0, show (0 : Int) < 256 by decide⟩
 | 1, _ =>
  have := h.pop1.2
  simp only [Go.Proofs.YtdbgagkcgdlnnaaGreat.popN, if_true, Int.zero_add, Int.mul_one]
  exact this
def RunOk.idles {k : Nat} (h : RunOk K (n + k) x) : ∀ i, i ≤ k → RunOk K (n + (k - i)) (idles K.toaSX i x)
 | 0, _ => h
 | i + 1, hi => (h.idles i o_m).mem (K.oI (K.oL (h.idles i o_m).m o_m))
def RunOk.idleK (k : Nat) (h : RunOk K (n + k) x) : RunOk K n (Go.Proofs.YtdbgagkcgdlnnaaGreat.idles K.toaSX k x) := (h.idles k (ax _)).le o_m
def RunOk.fetch1 (h : RunOk K (n + 1) x) : RunOk K n (fetch1 K.toaSX x).2 ∧ 0 ≤ (fetch1 K.toaSX x).1 ∧ (fetch1 K.toaSX x).1 < 256 := by
 have := K.oF h.m h.r.pc
 exact ⟨⟨h.r.pc_ lA, this.1⟩, this.2⟩
end
structure nD (o : Opr) : Prop where
 n : 0 ≤ o.n ∧ o.n < 65536
 x : 0 ≤ o.x ∧ o.x < 8
 small : o.kind = 34 ∨ o.kind = 35 → o.n < 256
def aSb (o : Opr) : Bool := decide (0 ≤ o.n ∧ o.n < 256 ∧ 0 ≤ o.x ∧ o.x < 8 ∧ ((o.kind = 34 ∨ o.kind = 35) → o.size = 2))
def aMv : kW.all aSb = true := by kernel_rfl
def aQY {a b c : Int} (ha : 0 ≤ a ∧ a < 256) (hb : 0 ≤ b ∧ b < 256) (hc : 0 ≤ c ∧ c < 256) : nD (dcd a b c) := by
 by_cases h : a = 203
 ·rw [pS h]; unfold rK
  split <;> exact ⟨⟨y_D, y_D⟩, ⟨y_D, y_D⟩, fun hk => by dsimp only at hk ⊢; omega⟩
 ·obtain ⟨m, o, hm, _, ho⟩ := qB ha.1 ha.2
  have hr : 0 ≤ o.n ∧ o.n < 256 ∧ 0 ≤ o.x ∧ o.x < 8 ∧ ((o.kind = 34 ∨ o.kind = 35) → o.size = 2) := c7 (List.all_eq_true.1 aMv o (ay ho))
  rw [jQ hm h ho]
  by_cases h2 : o.size = 2
  ·rw [aEB h2]; exact ⟨⟨hb.1, y_D⟩, ⟨hr.2.2.1, hr.2.2.2.1⟩, fun _ => hb.2⟩
  ·by_cases h3 : o.size = 3
   ·rw [aEo h3]; exact ⟨⟨y_D, y_D⟩, ⟨hr.2.2.1, hr.2.2.2.1⟩, fun hk => absurd (hr.2.2.2.2 hk) h2⟩
   ·rw [aBp h2 h3]; exact ⟨⟨hr.1, y_B⟩, ⟨hr.2.2.1, hr.2.2.2.1⟩, fun hk => absurd (hr.2.2.2.2 hk) h2⟩
def St.notin {A B : aB} {w0 w : AI} {ms : AE} (h : St w0 ms (A ++ B) w) {x : Nat × Obj} (hx : x ∈ B) : x.1 ∉ A.map (·.1) := fun hm => by
 have := h.nodup
 rw [aw, cx] at this
 exact this.2.2 _ hm _ (List.mem_map_of_mem hx) rfl
def aJc (z n h c : Bool) : aG .u8 (fl z n h c) 16 = fl false false false c := by cases z <;> cases n <;> cases h <;> cases c <;> decide
def aGp {v n : Int} (hv : 0 ≤ v ∧ v < 256) (hn : 0 ≤ n ∧ n < 8) : iO .u8 v (shl .u8 1 n) = qD v n := by
 rcases (show n = 0 ∨ n = 1 ∨ n = 2 ∨ n = 3 ∨ n = 4 ∨ n = 5 ∨ n = 6 ∨ n = 7 by omega) with rfl | rfl | rfl | rfl | rfl | rfl | rfl | rfl
 all_goals revert v; intro v hv; refine aW (p := fun v => iO .u8 v (shl .u8 1 _) = qD v _) ?_ hv.1 hv.2; decide +kernel
def aOv {v n : Int} (hv : 0 ≤ v ∧ v < 256) (hn : 0 ≤ n ∧ n < 8) : bor .u8 v (shl .u8 1 n) = uX v n := by
 rcases (show n = 0 ∨ n = 1 ∨ n = 2 ∨ n = 3 ∨ n = 4 ∨ n = 5 ∨ n = 6 ∨ n = 7 by omega) with rfl | rfl | rfl | rfl | rfl | rfl | rfl | rfl
 all_goals revert v; intro v hv; refine aW (p := fun v => bor .u8 v (shl .u8 1 _) = uX v _) ?_ hv.1 hv.2; decide +kernel
def aAh {v n : Int} (hv : 0 ≤ v ∧ v < 256) (hn : 0 ≤ n ∧ n < 8) : (0 ≤ qD v n ∧ qD v n < 256) ∧ (0 ≤ uX v n ∧ uX v n < 256) := by
 rcases (show n = 0 ∨ n = 1 ∨ n = 2 ∨ n = 3 ∨ n = 4 ∨ n = 5 ∨ n = 6 ∨ n = 7 by omega) with rfl | rfl | rfl | rfl | rfl | rfl | rfl | rfl
 all_goals revert v; intro v hv; refine aW (p := fun v => (0 ≤ qD v _ ∧ qD v _ < 256) ∧ (0 ≤ uX v _ ∧ uX v _ < 256)) ?_ hv.1 hv.2; decide +kernel
def aPd {f : Int} (h : 0 ≤ f ∧ f < 256) : bor .u8 (bor .u8 (aG .u8 f 144) 64) 32 = fl (zF f) true true (cF f) := aW (p := fun f => bor .u8 (bor .u8 (aG .u8 f 144) 64) 32 = fl (zF f) true true (cF f)) y_F h.1 h.2
def aOg {f : Int} (h : 0 ≤ f ∧ f < 256) : bor .u8 (aG .u8 f 128) 16 = fl (zF f) false false true := aW (p := fun f => bor .u8 (aG .u8 f 128) 16 = fl (zF f) false false true) y_F h.1 h.2
def aOd {f : Int} (h : 0 ≤ f ∧ f < 256) : jZ .u8 (aG .u8 f 144) 16 = fl (zF f) false false (!cF f) := aW (p := fun f => jZ .u8 (aG .u8 f 144) 16 = fl (zF f) false false (!cF f)) y_F h.1 h.2
def aPh {a b : Int} {c : Bool} : 0 ≤ nH a b c ∧ nH a b c < 256 := by unfold nH; omega
def aOI {a b : Int} {c : Bool} : 0 ≤ nM a b c ∧ nM a b c < 256 := by unfold nM; omega
def aGB {a : Int} : 0 ≤ zA a ∧ zA a < 256 := by unfold zA; omega
def aG0 {a : Int} : 0 ≤ zU a ∧ zU a < 256 := by unfold zU; omega
def aOH {a f : Int} : 0 ≤ rI a f ∧ rI a f < 256 := by unfold rI; split <;> omega
def aAJ {k a f : Int} (h : 0 ≤ a ∧ a < 256) : 0 ≤ dQ k a f ∧ dQ k a f < 256 := by
 have := aB5 (cF f)
 unfold dQ; repeat' split
 all_goals omega
def yH {a b : Int} : 0 ≤ rF a b ∧ rF a b < 65536 := by unfold rF; omega
def yK {a b : Int} : 0 ≤ shR a b ∧ shR a b < 65536 := by unfold shR; omega
def aNW (n : Int) : IntKind.i8.wrap n = s8 (n % 256) := by
 show (if (true && decide (n % 256 ≥ 128)) = true then n % 256 - 256 else n % 256) = _
 unfold s8
 split
 ·rename_i h; simp at h; rw [if_pos o_m]
 ·rename_i h; simp at h; rw [if_neg o_m]
def aQd {a : Int} (h : 0 ≤ a ∧ a < 256) : jZ .u8 255 a = 255 - a := aW (p := fun a => jZ .u8 255 a = 255 - a) y_F h.1 h.2
def aAx {n : Int} (h : 0 ≤ n ∧ n < 256) : bor .u16 65280 n = 65280 + n := by
 have := rG (h := 255) (l := n) y_b h
 simpa using this
section
variable {β : Type} (A : aSX β)
def vT {o : Opr} (h : isB o.kind = false) (x : Rn β) : eF A o x = x := by
 have := df h
 unfold eF; repeat rw [if_neg o_m]
def aAi {o : Opr} (h : isW o.kind = false) (x : Rn β) : gJ A o x = x := by
 have := df h
 unfold gJ; repeat rw [if_neg o_m]
end
section
variable {β : Type} {K : aSY β} {x : Rn β} {n : Nat}
def aKl {r : CR} (h : r.Ok) (k : Int) {b : Int} : (iA r k b).Ok := by
 have hf : ∀ z n h c, 0 ≤ fl z n h c ∧ fl z n h c < 256 := kJ
 have b1 : 0 ≤ aG .u8 r.a b ∧ aG .u8 r.a b < 256 := by unfold aG; rw [eX]; omega
 have b2 : 0 ≤ jZ .u8 r.a b ∧ jZ .u8 r.a b < 256 := by unfold jZ; rw [eX]; omega
 have b3 : 0 ≤ bor .u8 r.a b ∧ bor .u8 r.a b < 256 := by unfold bor; rw [eX]; omega
 unfold iA xQ oS pF
 repeat' split
 all_goals first | exact h | exact (h.a_ aPh).f_ (hf _ _ _ _) | exact (h.a_ aOI).f_ (hf _ _ _ _) | exact h.f_ (hf _ _ _ _) | exact (h.a_ b1).f_ (hf _ _ _ _) | exact (h.a_ b2).f_ (hf _ _ _ _) | exact (h.a_ b3).f_ (hf _ _ _ _)
end
section
variable {β : Type} {K : aSY β} {x : Rn β} {n : Nat}
structure xO (K : aSY β) (n : Nat) (q : Nx β) : Prop where
 x : RunOk K n q.x
 len : q.b.length = 3
 by_ : aY q.b
 o : nD q.o
 sz : q.o.size ≤ 3
def xO.le {q : Nx β} {k : Nat} (h : xO K n q) (hk : k ≤ n) : xO K k q := ⟨h.x.le hk, h.len, h.by_, h.o, h.sz⟩
def xO.next {q : Nx β} (h : xO K (n + 1) q) (i : Nat) : xO K n (nx1 K.toaSX q i) := by
 have hf := h.x.fetch1
 have hb := kP h.by_ i hf.2
 exact ⟨hf.1, by simp [nx1, h.len], hb, aQY (hb.get 0) (hb.get 1) (hb.get 2), (xL (hb.get 0) (hb.get 1) (hb.get 2)).size.2⟩
def RunOk.nx (h : RunOk K (n + 3) x) : ∀ i, i ≤ 3 → xO K (n + (3 - i)) (nxN K.toaSX x i)
 | 0, _ => ⟨h, rfl, by intro y hy; simp [nx0, nxN] at hy; omega, show nD ⟨0, 0, 0, 1, 0⟩ from ⟨y_et, y_et, y_et⟩, show (1 : Int) ≤ 3 by decide⟩
 | i + 1, hi => xO.next (by rw [show n + (3 - (i + 1)) + 1 = n + (3 - i) by omega]; exact h.nx i o_m) i
def aRM (A : aSX β) {i : Nat} (hi : i ≤ 3) (hp : ∀ j : Nat, j < i → (j : Int) < (nxN A x j).o.size) (he : ¬ (i : Int) < (nxN A x i).o.size) : nextT A x = ((nxN A x i).o, (nxN A x i).x) := by
 unfold nextT
 match i, hi with
 | 0, _ => exact absurd (show (0 : Int) < 1 by decide) he
 | 1, _ => rw [if_pos o_m]
 | 2, _ =>
  have := hp 1 o_m
  rw [if_neg o_m, if_pos o_m]
 | 3, _ =>
  have := hp 1 o_m
  have := hp 2 o_m
  rw [if_neg o_m, if_neg o_m]
def aJz (h : RunOk K (n + 3) x) : RunOk K n (nextT K.toaSX x).2 ∧ nD (nextT K.toaSX x).1 := by
 have h1 := h.nx 1 o_m
 have h2 := h.nx 2 o_m
 have h3 := h.nx 3 o_m
 unfold nextT
 split
 ·exact ⟨h1.x.le o_m, h1.o⟩
 ·split
  ·exact ⟨h2.x.le o_m, h2.o⟩
  ·exact ⟨h3.x.le o_m, h3.o⟩
def aLx {p : Int} (h : 0 ≤ p ∧ p < 32) : (aG .u8 p 16 == 0) = (p / 16 % 2 == 0) := aW (p := fun p => (aG .u8 p 16 == 0) = (p / 16 % 2 == 0)) y_F h.1 o_m
def aGY (p : Int) : 0 ≤ jJ p ∧ jJ p < 5 := by
 unfold jJ; repeat' split
 all_goals decide
end
section
variable {β : Type} {K : aSY β} {x : Rn β} {n : Nat}
def yX (h : RunOk K (n + 2) x) (k : Int) {g : Int → Int → Int × Int} (hg : ∀ a f, 0 ≤ a ∧ a < 256 → 0 ≤ f ∧ f < 256 → (0 ≤ (g a f).1 ∧ (g a f).1 < 256) ∧ (0 ≤ (g a f).2 ∧ (g a f).2 < 256)) : RunOk K n (change K.toaSX k g x) := by
 have h1 := h.gett k
 have h2 := hg _ _ h1.2 h1.1.r.f
 have h3 := RunOk.sett h1.1 k h2.1
 exact h3.reg (h3.r.f_ h2.2)
def jG {c : Prop} [Decidable c] {a b : Rn β} (h1 : RunOk K n a) (h2 : RunOk K n b) : RunOk K n (if c then a else b) := by split <;> assumption
def aOX (h : RunOk K (n + 2) x) {o : Opr} (ho : nD o) : RunOk K n (eF K.toaSX o x) := by
 have h0 := h.le (k := n) o_m
 have h1 := h.le (k := n + 1) o_m
 have gy := h1.gett o.y
 have gy2 := h.gett o.y
 have hn : 0 ≤ o.n % 256 ∧ o.n % 256 < 256 := by omega
 have hb := aAh gy.2 ho.x
 have fb := fun z n h c => kJ z n h c
 unfold eF
 refine jG (RunOk.sett gy2.1 _ gy.2) ?_
 refine jG (h1.sett _ hn) ?_
 refine jG (gy.1.reg (aKl gy.1.r _)) ?_
 refine jG (h0.reg (aKl h.r _)) ?_
 refine jG (yX h _ fun a f _ _ => ⟨aGB, fb _ _ _ _⟩) ?_
 refine jG (yX h _ fun a f _ _ => ⟨aG0, fb _ _ _ _⟩) ?_
 refine jG (yX h _ fun a f ha _ => ⟨aAJ ha, fb _ _ _ _⟩) ?_
 refine jG (h0.reg ((h.r.a_ (aAJ h.r.a)).f_ (fb _ _ _ _))) ?_
 refine jG (gy.1.reg (gy.1.r.f_ (fb _ _ _ _))) ?_
 refine jG (RunOk.sett gy2.1 _ hb.1) ?_
 refine jG (RunOk.sett gy2.1 _ hb.2) ?_
 refine jG (h0.reg ((h.r.a_ aOH).f_ (fb _ _ _ _))) ?_
 refine jG (h0.reg ((h.r.a_ (w := 255 - x.s.r.a) (by have := h.r.a; omega)).f_ (fb _ _ _ _))) ?_
 refine jG (h0.reg (h.r.f_ (fb _ _ _ _))) ?_
 refine jG (h0.reg (h.r.f_ (fb _ _ _ _))) ?_
 exact h0
def aOM (h : RunOk K (n + 3) x) {o : Opr} (ho : nD o) : RunOk K n (gJ K.toaSX o x) := by
 have h0 := h.le (k := n) o_m
 have h1 := h.le (k := n + 1) o_m
 have h2 := h.le (k := n + 2) o_m
 have fb := fun z n h c => kJ z n h c
 have hs := h.r.sp
 unfold gJ
 repeat' split
 ·exact h0.reg (h.r.setP _ ho.n)
 ·exact RunOk.idleK 1 (h1.reg (h.r.setP _ lA))
 ·exact RunOk.idleK 1 (h1.reg (h.r.setP _ lW))
 ·exact RunOk.idleK 1 (h1.reg ((h.r.f_ (fb _ _ _ _)).setP _ yH))
 ·exact RunOk.idleK 2 (h2.reg ((h.r.sp_ yK).f_ (fb _ _ _ _)))
 ·exact RunOk.idleK 1 (h1.reg ((h.r.f_ (fb _ _ _ _)).setP _ yK))
 ·exact RunOk.idleK 1 (h1.reg (h.r.sp_ (eW h.r _)))
 ·exact RunOk.push (h.idleK 1) (eW (h.idleK 1).r _)
 ·exact h2.pop.1.reg (h2.pop.1.r.setP _ h2.pop.2)
 ·exact h0.mem (K.oW (K.oW h2.m ho.n o_m) lA o_m)
 ·exact h0
def aLt (h : RunOk K n x) {o : Opr} (ho : nD o) : RunOk K n (place o x).2 ∧ 0 ≤ (place o x).1 ∧ (place o x).1 < 65536 := by
 have hc := h.r.c
 unfold place
 repeat' split
 ·exact h.far _
 ·exact ⟨h, y_D, y_D⟩
 ·exact ⟨h, y_D, y_D⟩
 ·exact ⟨h, ho.n⟩
def aOo (h : RunOk K (n + 1) x) {o : Opr} (ho : nD o) : RunOk K n (jC K.toaSX o x) := by
 have hp := aLt h ho
 unfold jC
 dsimp only
 split
 ·have := K.oR hp.1.m hp.2
  exact ⟨hp.1.r.a_ this.2, this.1⟩
 ·exact hp.1.mem (K.oW hp.1.m hp.2 hp.1.r.a)
def aOj (h : RunOk K (n + 4) x) {o : Opr} (ho : nD o) : RunOk K n (effJ K.toaSX o x) := by
 have hx : RunOk K (n + 3) (if o.kind = 26 ∧ o.x ≠ 4 then idles K.toaSX 1 x else x) := by
  split
  ·exact h.idleK 1
  ·exact h.le o_m
 unfold effJ
 dsimp only
 generalize (if o.kind = 26 ∧ o.x ≠ 4 then idles K.toaSX 1 x else x) = y at hx ⊢
 have h1 := hx.idleK 1
 have hg : ∀ {k : Nat} {z : Rn β} {w : Int}, RunOk K k z → 0 ≤ w ∧ w < 65536 → RunOk K k (goto w z) := fun hz hw => hz.reg (hz.r.pc_ hw)
 repeat' split
 ·exact hx.le o_m
 ·exact hg (h1.le o_m) o_m
 ·exact hg (h1.le o_m) ho.n
 ·exact hg (RunOk.push h1 hx.r.pc) ho.n
 ·have hq : RunOk K (n + 1 + 2) ⟨{ y.s with ime := true }, y.m⟩ := ⟨hx.r, hx.m⟩
  exact RunOk.idleK 1 (hg hq.pop.1 hq.pop.2)
 ·have hq : RunOk K (n + 1 + 2) y := hx
  exact RunOk.idleK 1 (hg hq.pop.1 hq.pop.2)
 ·exact hg (hx.le o_m) (eW hx.r 2)
 ·exact hx.le o_m
def aOG (h : RunOk K (n + 4) x) {o : Opr} (ho : nD o) {p : Int} (hp : 0 ≤ p ∧ p < 65536) : RunOk K n (ordT K.toaSX o p x).2 := by
 have h0 := h.le (k := n) o_m
 unfold ordT
 repeat' split
 ·exact ⟨h.r, h0.m⟩
 ·exact ⟨h.r, h0.m⟩
 ·exact h0.reg (h.r.pc_ hp)
 ·exact ⟨h.r, h0.m⟩
 ·exact ⟨h.r, h0.m⟩
 ·exact aOX (h.le o_m) ho
 ·exact aOM (h.le o_m) ho
 ·exact aOo (h.le o_m) ho
 ·exact aOj h ho
def aNc (h : RunOk K (n + 5) x) (p : Int) : RunOk K n (qG K.toaSX p x) := by
 have h1 := RunOk.push (n := n + 1) (h.idleK 2) h.r.pc
 have hl := aGY p
 have h2 := RunOk.idleK (n := n) 1 (h1.mem (K.oA h1.m hl))
 exact ⟨h2.r.pc_ o_m, h2.m⟩
def aGo (h : RunOk K (n + 7) x) : RunOk K n (bW K.toaSX x).2 := by
 have h0 := h.le (k := n) o_m
 have h1 := h.le (k := n + 1) o_m
 unfold bW
 dsimp only
 repeat' split
 ·exact ⟨h.r, K.oI h1.m⟩
 ·exact h0.mem (K.oI h1.m)
 ·exact aNc (n := n) (x := ⟨{ x.s with halt := false }, x.m⟩) ⟨h.r, K.oL h.m o_m⟩ _
 all_goals
  have hq := aJz (n := n + 4) (K := K) (x := ⟨{ x.s with halt := false, soon := false }, x.m⟩) ⟨h.r, h.m⟩
  have ho := aOG hq.1 hq.2 h.r.pc
  first | exact ho | exact ⟨ho.r, ho.m⟩
end
structure Ac where
 kind : Int
 addr : Int
 val : Int
deriving DecidableEq
def cAc (a : Ac) : AA := [.int .i64 a.kind, .int .u16 a.addr, .int .u8 a.val]
def aCE (a : Ac) : (cAc a).length = 3 := rfl
structure Hd where
 title : List UInt8
 kind : Int
 clock : Bool
 battery : Bool
 banks : Int
 ram : Int
 whole : Bool
deriving DecidableEq
def cHd (h : Hd) : AA := [.string (bs h.title), .int .i64 h.kind, .bool h.clock, .bool h.battery, .int .i64 h.banks, .int .i64 h.ram, .bool h.whole]
structure Mm where
 cpu : CS
 bk : Bk
 ck : Ck
 tm : Tm
 pd : Pd
 pt : Pt
 cp : Cp
 bd : Bd
 flags : Int
 lets : Int
 steps : Int
 cycles : Int
 hd : Hd
 u : PU
 rom : AB
 ram : AB
 work : AB
 high : AB
 acc : List Ac
def pictured (a : Int) : Bool := decide ((32768 ≤ a ∧ a < 40960) ∨ (65024 ≤ a ∧ a < 65184) ∨ (65344 ≤ a ∧ a < 65356 ∧ a ≠ 65350))
def askM (k : Int) (is : Bool) (m : Mm) : Mm := if is = true then { m with flags := bor .u8 m.flags k } else m
def pD (a : Int) (m : Mm) : Int := match clockB m.bk with
 | some p => tB p m.ck
 | none => match atB_ a m.bk with
  | none => 255
  | some n => if m.hd.kind = 2 then bor .u8 (m.ram.getD n.toNat 0) 240 else m.ram.getD n.toNat 0
def deviceM (a : Int) (m : Mm) : Int :=
 if a = 65280 then aBY m.pd else if a < 65283 then readPt (a - 65281) m.pt else if 65284 ≤ a ∧ a < 65288 then readTm (a - 65284) m.tm
 else if a = 65295 then bor .u8 m.flags 224 else if 65296 ≤ a ∧ a < 65344 then readB (a - 65296) m.bd else if a = 65350 then m.cp.page
 else if a = 65535 then m.lets else if 65408 ≤ a then m.high.getD (a - 65408).toNat 0 else 255
def kX (a : Int) (m : Mm) : Int :=
 if a < 32768 then m.rom.getD (aAP a m.bk).toNat 0 else if pictured a = true then kV m.u a else if a < 49152 then pD a m
 else if a < 65024 then m.work.getD (a % 8192).toNat 0 else if a < 65280 then 255 else deviceM a m
def iM (a x : Int) (m : Mm) : Mm := match clockB m.bk with
 | some p => { m with ck := writeCk p x m.ck }
 | none => match atB_ a m.bk with
  | none => m
  | some n => { m with ram := m.ram.set n.toNat x }
def setDeviceM (a x : Int) (m : Mm) : Mm :=
 if a = 65280 then askM 16 (mB m.pd (kT x m.pd)) { m with pd := kT x m.pd } else if a < 65283 then { m with pt := writePt (a - 65281) x m.pt }
 else if 65284 ≤ a ∧ a < 65288 then { m with tm := writeTm (a - 65284) x m.tm } else if a = 65295 then { m with flags := aG .u8 x 31 }
 else if 65296 ≤ a ∧ a < 65344 then { m with bd := writeBd (a - 65296) x m.bd } else if a = 65350 then { m with cp := sB x }
 else if a = 65535 then { m with lets := x } else if 65408 ≤ a then { m with high := m.high.set (a - 65408).toNat x } else m
def mQ (is : Bool) (m : Mm) : Mm := if is = true then { m with ck := sR m.ck } else m
def pokeM (a x : Int) (m : Mm) : Mm :=
 if a < 32768 then mQ (latchB a x m.bk) { m with bk := writeB a x m.bk } else if pictured a = true then askM 2 (aG .u8 (jB m.u a x) 2 != 0) { m with u := eS m.u a x }
 else if a < 49152 then iM a x m else if a < 65024 then { m with work := m.work.set (a % 8192).toNat x } else if a < 65280 then m else setDeviceM a x m
def cyc1 (m : Mm) : Mm := askM 4 m.tm.over { m with cycles := (m.cycles + 1) % 18446744073709551616, tm := lU m.tm }
def cyc2 (m : Mm) : Mm := askM 8 (mT m.pt) { m with pt := tickPt m.pt }
def cyc3 (m : Mm) : Mm := if 0 < m.cp.left then { m with cp := tickCp m.cp, u := kH m.u (xM m.cp) (kX (qK m.cp) { m with cp := tickCp m.cp }) } else m
def cyc4 (m : Mm) : Mm := { m with bd := tickB m.bd }
def cyc5 (m : Mm) : Mm := askM 2 (aG .u8 (tickV m.u) 2 != 0) (askM 1 (aG .u8 (tickV m.u) 1 != 0) { m with u := tickU m.u })
def nN (m : Mm) : Mm := if m.hd.clock = true then { m with ck := tickCk m.ck } else m
def cycleM (m : Mm) : Mm := nN (cyc5 (cyc4 (cyc3 (cyc2 (cyc1 m)))))
def qN (k a x : Int) (m : Mm) : Mm := { m with acc := m.acc ++ [⟨k, a, x⟩] }
def seenM (a : Int) (m : Mm) : Int := if letsCp m.cp a = false then 255 else if pictured a = true then oX m.u a else kX a m
def dN : aSX Mm where
 fetch a m := (seenM a (cycleM m), qN 3 a (seenM a (cycleM m)) (cycleM m))
 read a m := (seenM a (cycleM m), qN 1 a (seenM a (cycleM m)) (cycleM m))
 write a x m := qN 2 a x (if letsCp (cycleM m).cp a = true then pokeM a x (cycleM m) else cycleM m)
 idle m := qN 0 0 0 (cycleM m)
 pend m := aG .u8 (aG .u8 m.flags m.lets) 31
 ack n m := { m with flags := qD m.flags n }
def jN (x : Int) (m : Mm) : Mm := askM 16 (mB m.pd (gQ x m.pd)) { m with pd := gQ x m.pd }
def bS (plan : List Chg) (m : Mm) : Mm := { jN (eC plan m.steps) m with acc := [] }
def stepM (plan : List Chg) (m : Mm) : Dd × Mm :=
 let q := bW dN (⟨m.cpu, bS plan m⟩ : Rn Mm)
 (q.1, { q.2.m with cpu := q.2.s, steps := (q.2.m.steps + 1) % 18446744073709551616 })
structure Mm.Wf (m : Mm) : Prop where
 bk : m.bk.Ok
 ck : m.ck.Ok
 tm : m.tm.Ok
 pd : m.pd.Ok
 pt : m.pt.Ok
 cp : m.cp.Ok
 bd : m.bd.Wf
 flags : 0 ≤ m.flags ∧ m.flags < 256
 lets : 0 ≤ m.lets ∧ m.lets < 256
 steps : 0 ≤ m.steps ∧ m.steps < 18446744073709551616
 cycles : 0 ≤ m.cycles ∧ m.cycles < 18446744073709551616
 u : m.u.Ok
 banks : 0 < m.bk.banks
 lRom : (m.rom.length : Int) = 16384 * m.bk.banks
 bRom : aY m.rom
 lRam : (m.ram.length : Int) = m.bk.ram
 bRam : aY m.ram
 lWork : m.work.length = 8192
 bWork : aY m.work
 lHigh : m.high.length = 127
 bHigh : aY m.high
structure fQ (n : Nat) (m : Mm) : Prop where
 wf : m.Wf
 room : m.acc.length + n ≤ 1000000
 accs : ∀ e ∈ m.acc, (0 ≤ e.addr ∧ e.addr < 65536) ∧ 0 ≤ e.val ∧ e.val < 256
section
variable {m : Mm}
def Mm.Wf.flags_ (h : m.Wf) {x : Int} (hx : 0 ≤ x ∧ x < 256) : ({ m with flags := x } : Mm).Wf := ⟨h.bk, h.ck, h.tm, h.pd, h.pt, h.cp, h.bd, hx, h.lets, h.steps, h.cycles, h.u, h.banks, h.lRom, h.bRom, h.lRam, h.bRam, h.lWork, h.bWork, h.lHigh, h.bHigh⟩
def Mm.Wf.lets_ (h : m.Wf) {x : Int} (hx : 0 ≤ x ∧ x < 256) : ({ m with lets := x } : Mm).Wf := ⟨h.bk, h.ck, h.tm, h.pd, h.pt, h.cp, h.bd, h.flags, hx, h.steps, h.cycles, h.u, h.banks, h.lRom, h.bRom, h.lRam, h.bRam, h.lWork, h.bWork, h.lHigh, h.bHigh⟩
def Mm.Wf.tm_ (h : m.Wf) {x : Tm} (hx : x.Ok) : ({ m with tm := x } : Mm).Wf := ⟨h.bk, h.ck, hx, h.pd, h.pt, h.cp, h.bd, h.flags, h.lets, h.steps, h.cycles, h.u, h.banks, h.lRom, h.bRom, h.lRam, h.bRam, h.lWork, h.bWork, h.lHigh, h.bHigh⟩
def Mm.Wf.ck_ (h : m.Wf) {x : Ck} (hx : x.Ok) : ({ m with ck := x } : Mm).Wf := ⟨h.bk, hx, h.tm, h.pd, h.pt, h.cp, h.bd, h.flags, h.lets, h.steps, h.cycles, h.u, h.banks, h.lRom, h.bRom, h.lRam, h.bRam, h.lWork, h.bWork, h.lHigh, h.bHigh⟩
def Mm.Wf.pd_ (h : m.Wf) {x : Pd} (hx : x.Ok) : ({ m with pd := x } : Mm).Wf := ⟨h.bk, h.ck, h.tm, hx, h.pt, h.cp, h.bd, h.flags, h.lets, h.steps, h.cycles, h.u, h.banks, h.lRom, h.bRom, h.lRam, h.bRam, h.lWork, h.bWork, h.lHigh, h.bHigh⟩
def Mm.Wf.pt_ (h : m.Wf) {x : Pt} (hx : x.Ok) : ({ m with pt := x } : Mm).Wf := ⟨h.bk, h.ck, h.tm, h.pd, hx, h.cp, h.bd, h.flags, h.lets, h.steps, h.cycles, h.u, h.banks, h.lRom, h.bRom, h.lRam, h.bRam, h.lWork, h.bWork, h.lHigh, h.bHigh⟩
def Mm.Wf.cp_ (h : m.Wf) {x : Cp} (hx : x.Ok) : ({ m with cp := x } : Mm).Wf := ⟨h.bk, h.ck, h.tm, h.pd, h.pt, hx, h.bd, h.flags, h.lets, h.steps, h.cycles, h.u, h.banks, h.lRom, h.bRom, h.lRam, h.bRam, h.lWork, h.bWork, h.lHigh, h.bHigh⟩
def Mm.Wf.bd_ (h : m.Wf) {x : Bd} (hx : x.Wf) : ({ m with bd := x } : Mm).Wf := ⟨h.bk, h.ck, h.tm, h.pd, h.pt, h.cp, hx, h.flags, h.lets, h.steps, h.cycles, h.u, h.banks, h.lRom, h.bRom, h.lRam, h.bRam, h.lWork, h.bWork, h.lHigh, h.bHigh⟩
def Mm.Wf.u_ (h : m.Wf) {x : PU} (hx : x.Ok) : ({ m with u := x } : Mm).Wf := ⟨h.bk, h.ck, h.tm, h.pd, h.pt, h.cp, h.bd, h.flags, h.lets, h.steps, h.cycles, hx, h.banks, h.lRom, h.bRom, h.lRam, h.bRam, h.lWork, h.bWork, h.lHigh, h.bHigh⟩
def Mm.Wf.cycles_ (h : m.Wf) {x : Int} (hx : 0 ≤ x ∧ x < 18446744073709551616) : ({ m with cycles := x } : Mm).Wf := ⟨h.bk, h.ck, h.tm, h.pd, h.pt, h.cp, h.bd, h.flags, h.lets, h.steps, hx, h.u, h.banks, h.lRom, h.bRom, h.lRam, h.bRam, h.lWork, h.bWork, h.lHigh, h.bHigh⟩
def Mm.Wf.steps_ (h : m.Wf) {x : Int} (hx : 0 ≤ x ∧ x < 18446744073709551616) (s : CS) : ({ m with cpu := s, steps := x } : Mm).Wf := ⟨h.bk, h.ck, h.tm, h.pd, h.pt, h.cp, h.bd, h.flags, h.lets, hx, h.cycles, h.u, h.banks, h.lRom, h.bRom, h.lRam, h.bRam, h.lWork, h.bWork, h.lHigh, h.bHigh⟩
def Mm.Wf.acc_ (h : m.Wf) (x : List Ac) : ({ m with acc := x } : Mm).Wf := ⟨h.bk, h.ck, h.tm, h.pd, h.pt, h.cp, h.bd, h.flags, h.lets, h.steps, h.cycles, h.u, h.banks, h.lRom, h.bRom, h.lRam, h.bRam, h.lWork, h.bWork, h.lHigh, h.bHigh⟩
def Mm.Wf.ram_ (h : m.Wf) (n : Nat) {x : Int} (hx : 0 ≤ x ∧ x < 256) : ({ m with ram := m.ram.set n x } : Mm).Wf := ⟨h.bk, h.ck, h.tm, h.pd, h.pt, h.cp, h.bd, h.flags, h.lets, h.steps, h.cycles, h.u, h.banks, h.lRom, h.bRom, by show ((m.ram.set n x).length : Int) = _; rw [List.length_set]; exact h.lRam, kP h.bRam n hx, h.lWork, h.bWork, h.lHigh, h.bHigh⟩
def Mm.Wf.work_ (h : m.Wf) (n : Nat) {x : Int} (hx : 0 ≤ x ∧ x < 256) : ({ m with work := m.work.set n x } : Mm).Wf := ⟨h.bk, h.ck, h.tm, h.pd, h.pt, h.cp, h.bd, h.flags, h.lets, h.steps, h.cycles, h.u, h.banks, h.lRom, h.bRom, h.lRam, h.bRam, by show (m.work.set n x).length = _; rw [List.length_set]; exact h.lWork, kP h.bWork n hx, h.lHigh, h.bHigh⟩
def Mm.Wf.high_ (h : m.Wf) (n : Nat) {x : Int} (hx : 0 ≤ x ∧ x < 256) : ({ m with high := m.high.set n x } : Mm).Wf := ⟨h.bk, h.ck, h.tm, h.pd, h.pt, h.cp, h.bd, h.flags, h.lets, h.steps, h.cycles, h.u, h.banks, h.lRom, h.bRom, h.lRam, h.bRam, h.lWork, h.bWork, by show (m.high.set n x).length = _; rw [List.length_set]; exact h.lHigh, kP h.bHigh n hx⟩
def Mm.Wf.bk_ (h : m.Wf) (a : Int) {x : Int} (hx : 0 ≤ x ∧ x < 256) : ({ m with bk := writeB a x m.bk } : Mm).Wf := by
 obtain ⟨h1, h2, h3⟩ := aAy a x m.bk
 exact ⟨h.bk.write a hx, h.ck, h.tm, h.pd, h.pt, h.cp, h.bd, h.flags, h.lets, h.steps, h.cycles, h.u, by show 0 < (writeB a x m.bk).banks; rw [h2]; exact h.banks, by show _ = 16384 * (writeB a x m.bk).banks; rw [h2]; exact h.lRom, h.bRom, by show _ = (writeB a x m.bk).ram; rw [h3]; exact h.lRam, h.bRam, h.lWork, h.bWork, h.lHigh, h.bHigh⟩
def Mm.Wf.ask (h : m.Wf) (k : Int) (is : Bool) : (askM k is m).Wf := by unfold askM; split; exact h.flags_ (qC _ _); exact h
def Mm.Wf.latch (h : m.Wf) (is : Bool) : (mQ is m).Wf := by unfold mQ; split; exact h.ck_ h.ck.hold; exact h
def Mm.Wf.save (h : m.Wf) (a : Int) {x : Int} (hx : 0 ≤ x ∧ x < 256) : (iM a x m).Wf := by
 unfold iM
 split
 ·exact h.ck_ (h.ck.write _ hx)
 split
 ·exact h
 ·exact h.ram_ _ hx
def Mm.Wf.setDevice (h : m.Wf) (a : Int) {x : Int} (hx : 0 ≤ x ∧ x < 256) : (setDeviceM a x m).Wf := by
 unfold setDeviceM
 split
 ·exact (h.pd_ (h.pd.sel_ x)).ask _ _
 split
 ·exact h.pt_ (h.pt.write _ hx)
 split
 ·exact h.tm_ (h.tm.write _ hx)
 split
 ·exact h.flags_ (aAX _ _)
 split
 ·exact h.bd_ (h.bd.write _ hx)
 split
 ·exact h.cp_ ⟨hx, show (0 : Int) ≤ 160 ∧ (160 : Int) < 65536 by decide⟩
 split
 ·exact h.lets_ hx
 split
 ·exact h.high_ _ hx
 ·exact h
def Mm.Wf.poke (h : m.Wf) (a : Int) {x : Int} (hx : 0 ≤ x ∧ x < 256) : (pokeM a x m).Wf := by
 unfold pokeM
 split
 ·exact (h.bk_ a hx).latch _
 split
 ·exact (h.u_ (h.u.write hx)).ask _ _
 split
 ·exact h.save a hx
 split
 ·exact h.work_ _ hx
 split
 ·exact h
 ·exact h.setDevice a hx
def aKa (h : m.Wf) (a : Int) : 0 ≤ pD a m ∧ pD a m < 256 := by
 unfold pD
 split
 ·exact aJX h.ck _
 split
 ·decide
 split
 ·exact qC _ _
 ·exact h.bRam.get _
def aHF (h : m.Wf) (a : Int) : 0 ≤ deviceM a m ∧ deviceM a m < 256 := by
 unfold deviceM
 split; exact aI7 _
 split; exact aJH h.pt _
 split; exact aJS h.tm _
 split; exact qC _ _
 split; exact aL6 h.bd _
 split; exact h.cp.page
 split; exact h.lets
 split; exact h.bHigh.get _
 decide
def aLa (u : PU) : 0 ≤ wX u ∧ wX u < 256 := qC _ _
def aFG {u : PU} (h : u.Wf) (a : Int) : 0 ≤ kV u a ∧ kV u a < 256 := by
 unfold kV
 repeat' split
 all_goals first | exact h.bV.get _ | exact h.bO.get _ | exact h.bR.get _ | exact qC _ _ | exact aLa u | omega
def aMU {u : PU} (h : u.Wf) (a : Int) : 0 ≤ oX u a ∧ oX u a < 256 := by
 unfold oX
 repeat' split
 all_goals first | exact aFG h a | omega
def wF (h : m.Wf) (a : Int) : 0 ≤ kX a m ∧ kX a m < 256 := by
 unfold kX
 split; exact h.bRom.get _
 split; exact aFG h.u.wf _
 split; exact aKa h _
 split; exact h.bWork.get _
 split; decide
 exact aHF h _
def sP (h : m.Wf) (a : Int) : 0 ≤ seenM a m ∧ seenM a m < 256 := by
 unfold seenM
 split; decide
 split; exact aMU h.u.wf _
 exact wF h _
def Mm.Wf.cyc1W (h : m.Wf) : (cyc1 m).Wf := Mm.Wf.ask (m := { m with cycles := (m.cycles + 1) % 18446744073709551616, tm := lU m.tm }) ((h.cycles_ (x := (m.cycles + 1) % 18446744073709551616) o_m).tm_ h.tm.tick) _ _
def Mm.Wf.cyc2W (h : m.Wf) : (cyc2 m).Wf := (h.pt_ h.pt.tick).ask _ _
def Mm.Wf.cyc3W (h : m.Wf) : (cyc3 m).Wf := by
 unfold cyc3
 split
 ·exact Mm.Wf.u_ (m := { m with cp := tickCp m.cp }) (h.cp_ h.cp.tick) (h.u.sprite _ (wF (h.cp_ h.cp.tick) _))
 ·exact h
def Mm.Wf.cyc4W (h : m.Wf) : (cyc4 m).Wf := h.bd_ h.bd.tick
def Mm.Wf.cyc5W (h : m.Wf) : (cyc5 m).Wf := ((h.u_ h.u.tick).ask _ _).ask _ _
def Mm.Wf.cyc6W (h : m.Wf) : (nN m).Wf := by unfold nN; split; exact h.ck_ h.ck.tick; exact h
def Mm.Wf.cycle (h : m.Wf) : (cycleM m).Wf := h.cyc1W.cyc2W.cyc3W.cyc4W.cyc5W.cyc6W
def aAK (k : Int) (is : Bool) (m : Mm) : (askM k is m).acc = m.acc := by unfold askM; split <;> rfl
def cycleM_acc (m : Mm) : (cycleM m).acc = m.acc := by
 unfold cycleM nN cyc5 cyc4 cyc3 cyc2 cyc1
 repeat' split
 all_goals simp only [aAK]
def aHU (is : Bool) (m : Mm) : (mQ is m).acc = m.acc := by unfold mQ; split <;> rfl
def aJO (a x : Int) (m : Mm) : (iM a x m).acc = m.acc := by
 unfold iM
 split
 ·rfl
 split <;> rfl
def aCg (a x : Int) (m : Mm) : (setDeviceM a x m).acc = m.acc := by
 unfold setDeviceM
 split
 ·exact aAK _ _ _
 repeat' split
 all_goals rfl
def qV (a x : Int) (m : Mm) : (pokeM a x m).acc = m.acc := by
 unfold pokeM
 split
 ·exact aHU _ _
 split
 ·exact aAK _ _ _
 split
 ·exact aJO _ _ _
 split
 ·rfl
 split
 ·rfl
 ·exact aCg _ _ _
def fQ.cycle {n : Nat} (h : fQ n m) : fQ n (cycleM m) := ⟨h.wf.cycle, by rw [cycleM_acc]; exact h.room, by rw [cycleM_acc]; exact h.accs⟩
def fQ.note {n : Nat} (h : fQ (n + 1) m) (k : Int) {a x : Int} (ha : 0 ≤ a ∧ a < 65536) (hx : 0 ≤ x ∧ x < 256) : fQ n (qN k a x m) := ⟨h.wf.acc_ _, by have := h.room; simp only [qN, La_, aq]; omega, fun e he => by
 rcases List.mem_append.1 he with he | he
 ·exact h.accs e he
 ·rw [List.mem_singleton.1 he]; exact ⟨ha, hx⟩⟩
def fQ.poke {n : Nat} (h : fQ n m) (a : Int) {x : Int} (hx : 0 ≤ x ∧ x < 256) : fQ n (pokeM a x m) := ⟨h.wf.poke a hx, by rw [qV]; exact h.room, by rw [qV]; exact h.accs⟩
def fQ.le {n k : Nat} (h : fQ n m) (hk : k ≤ n) : fQ k m := ⟨h.wf, by have := h.room; omega, h.accs⟩
def fQ.get {n : Nat} (h : fQ (n + 1) m) (k : Int) {a : Int} (ha : 0 ≤ a ∧ a < 65536) : fQ n (qN k a (seenM a (cycleM m)) (cycleM m)) := h.cycle.note k ha (sP h.wf.cycle a)
def fQ.write {n : Nat} (h : fQ (n + 1) m) {a x : Int} (ha : 0 ≤ a ∧ a < 65536) (hx : 0 ≤ x ∧ x < 256) : fQ n (dN.write a x m) := by
 show fQ n (qN 2 a x (if letsCp (cycleM m).cp a = true then pokeM a x (cycleM m) else cycleM m))
 split
 ·exact (h.cycle.poke a hx).note 2 ha hx
 ·exact h.cycle.note 2 ha hx
def fQ.ack {n : Nat} (h : fQ n m) {k : Int} (hk : 0 ≤ k ∧ k < 5) : fQ n (dN.ack k m) := ⟨h.wf.flags_ (aAh h.wf.flags ⟨hk.1, y_B⟩).1, h.room, h.accs⟩
def aFo (m : Mm) : 0 ≤ dN.pend m ∧ dN.pend m < 32 := by
 have key : ∀ y : Int, 0 ≤ y ∧ y < 256 → (0 ≤ aG .u8 y 31 ∧ aG .u8 y 31 < 32) := fun y hy => aW (p := fun y => 0 ≤ aG .u8 y 31 ∧ aG .u8 y 31 < 32) y_F hy.1 hy.2
 exact key _ (aAX _ _)
def Mm.Wf.press (h : m.Wf) {x : Int} (hx : 0 ≤ x ∧ x < 256) : (jN x m).Wf := (h.pd_ (h.pd.press hx)).ask _ _
def Mm.Wf.start (h : m.Wf) {l : List Chg} (hl : ∀ c ∈ l, mX c) : (bS l m).Wf := (h.press (aCT hl _)).acc_ []
end
def aCF (n : Int) : ((BitVec.ofInt 64 n).toNat : Int) = n % 18446744073709551616 := by
 rw [ep]
 have : (0 : Int) ≤ n % 18446744073709551616 := eh _ y_b
 exact cu this
def aQJ (a : Nat) (h : a < 18446744073709551616) : a &&& 18446744073709551360 = a / 256 * 256 := by
 have h1 : (18446744073709551360 : Nat) = (2 ^ 56 - 1) <<< 8 := by decide
 have h2 : a / 256 * 256 = (a >>> 8) <<< 8 := by rw [i2, iq]
 rw [h1, h2]
 refine gx fun i => ?_
 rw [i7, fp, fp, Nat.testBit_two_pow_sub_one, Nat.testBit_shiftRight]
 by_cases h8 : 8 ≤ i
 ·have h9 : 8 + (i - 8) = i := by omega
  rw [h9]
  by_cases h64 : i - 8 < 56
  ·simp [h8, h64]
  ·have : a.testBit i = false := Nat.testBit_lt_two_pow (de h (f7 (by decide : 18446744073709551616 ≤ 2 ^ 64) (ez y_b o_m)))
   simp [this]
 ·simp [h8]
def aFw {n : Int} (h1 : -9223372036854775808 ≤ n) (h2 : n ≤ 9223372036854775807) : iO .i64 n 255 = n / 256 * 256 := by
 have ha := aCF n
 have hb : (BitVec.ofInt 64 n &&& ~~~BitVec.ofInt 64 255).toNat = (BitVec.ofInt 64 n).toNat / 256 * 256 := by
  rw [fz]
  exact aQJ _ (BitVec.isLt _)
 show IntKind.i64.wrap ((BitVec.ofInt 64 n &&& ~~~BitVec.ofInt 64 255).toNat : Int) = _
 rw [hb, aAa]
 omega
def aNe (q x : Nat) (hx : x < 256) : (256 * q) ||| x = 256 * q + x := (ig (i := 8) hx q).symm
def aA1 {A x : Int} (hA : A % 256 = 0) (h1 : -9223372036854775808 ≤ A) (h2 : A ≤ 9223372036854775807) (hx : 0 ≤ x ∧ x < 256) : bor .i64 A x = A + x := by
 have ha := aCF A
 have hxx := aCF x
 have hb : (BitVec.ofInt 64 A ||| BitVec.ofInt 64 x).toNat = (BitVec.ofInt 64 A).toNat + (BitVec.ofInt 64 x).toNat := by
  rw [BitVec.toNat_or]
  have hq : (BitVec.ofInt 64 A).toNat = 256 * ((BitVec.ofInt 64 A).toNat / 256) := by omega
  rw [hq]
  exact aNe _ _ o_m
 show IntKind.i64.wrap ((BitVec.ofInt 64 A ||| BitVec.ofInt 64 x).toNat : Int) = _
 rw [hb, aAa]
 omega
def tZ {A x : Int} (hA : A % 256 = 0) (h1 : -9223372036854775808 ≤ A) (h2 : A ≤ 9223372036854775807) (hx : 0 ≤ x ∧ x < 256) : bor .i64 x A = x + A := by
 have := aA1 hA h1 h2 hx
 unfold bor at this ⊢
 rw [BitVec.or_comm, this]; omega
def aFN (n : Int) : aG .i64 n 255 = n % 256 := aFC n 8 y_b
def atT (o : Option Int) : AH := match o with
 | none => .tuple #[.int .i64 0, .bool false]
 | some n => .tuple #[.int .i64 n, .bool true]
def aLY (c : Ck) (y : Int) : secCk { c with sub := y } = { secCk c with sub := y } := by
 unfold secCk dayCk
 repeat' split
 all_goals first | rfl | (exfalso; simp_all; done)
def aF1 (c : Ck) (k : Nat) : secCk { jD c k with sub := (jD c k).sub - 1048576 } = jD c (k + 1) := aLY _ _
def aMN {a : Int} (h : 0 ≤ a ∧ a < 2) (x y : Bool) : bor .u8 (bor .u8 a (gZ x 64)) (gZ y 128) = a + gZ x 64 + gZ y 128 := by
 rcases (show a = 0 ∨ a = 1 by omega) with rfl | rfl <;> cases x <;> cases y <;> decide
def aP0 {x : Int} (h : 0 ≤ x ∧ x < 256) : aG .u8 x 248 = x / 8 * 8 := aW (p := fun x => aG .u8 x 248 = x / 8 * 8) y_F h.1 h.2
def aLu {x : Int} (h : 0 ≤ x ∧ x < 256) : bor .u8 (x * 2 % 256) 1 = x % 128 * 2 + 1 := aW (p := fun x => bor .u8 (x * 2 % 256) 1 = x % 128 * 2 + 1) y_F h.1 h.2
def aMC {x : Int} (h : 0 ≤ x ∧ x < 256) : iO .u8 x 128 = x % 128 := aW (p := fun x => iO .u8 x 128 = x % 128) y_F h.1 h.2
def aL5 {x : Int} (h : 0 ≤ x ∧ x < 256) : aG .u8 x 129 = x / 128 * 128 + x % 2 := aW (p := fun x => aG .u8 x 129 = x / 128 * 128 + x % 2) y_F h.1 h.2
def aJo {x : Int} (h : 0 ≤ x ∧ x < 256) : bor .u8 x 126 = x / 128 * 128 + 126 + x % 2 := aW (p := fun x => bor .u8 x 126 = x / 128 * 128 + 126 + x % 2) y_F h.1 h.2
def aJE {x : Int} (h : 0 ≤ x ∧ x < 256) : bor .u8 x 248 = 248 + x % 8 := aW (p := fun x => bor .u8 x 248 = 248 + x % 8) y_F h.1 h.2
section
variable {b : Bd}
def flat4 : ∀ (l : List Vc), (aE cVc l).length = 4 * l.length
 | [] => rfl
 | v :: l => by show (cVc v ++ aE cVc l).length = _; rw [La_, flat4 l, rV, Lc_]; omega
def aFq : ∀ (l : List Vc) (n k : Nat) (x : AH), n < l.length → (cVc (l.getD n vcZ))[k]? = some x → (aE cVc l)[n * 4 + k]? = some x
 | v :: l, 0, k, x, _, hx => eG (A := cVc v) (by simpa using hx)
 | v :: l, n + 1, k, x, hn, hx => cH (A := cVc v) (n := n * 4 + k) (by rw [rV]; omega) (aFq l n k x (by simpa using hn) (by simpa using hx))
def aDf : ∀ (l : List Vc) (n k : Nat) (x : AH) (y : Vc), n < l.length → k < 4 → (cVc (l.getD n vcZ)).set k x = cVc y → aP (aE cVc l) (n * 4 + k) [x] = aE cVc (l.set n y)
 | v :: l, 0, k, x, y, _, hk, hy => by
  have h1 : aP (cVc v) k [x] = cVc y := by
   rw [← hy, show ((v :: l).getD 0 vcZ) = v from rfl]
   rcases (show k = 0 ∨ k = 1 ∨ k = 2 ∨ k = 3 by omega) with rfl | rfl | rfl | rfl <;> rfl
  show aP (cVc v ++ aE cVc l) (0 * 4 + k) [x] = cVc y ++ aE cVc l
  rw [f8, az, eU (by rw [rV, aq]; omega), h1]
 | v :: l, n + 1, k, x, y, hn, hk, hy => by
  show aP (cVc v ++ aE cVc l) ((n + 1) * 4 + k) [x] = cVc v ++ aE cVc (l.set n y)
  have hn' : n < l.length := by simpa using hn
  rw [bQ (n := n * 4 + k) (by rw [rV]; omega) (by rw [flat4, aq]; omega), aDf l n k x y hn' hk (by simpa using hy)]
structure Bd.Ln (b : Bd) : Prop where
 lR : b.regs.length = 48
 bR : aY b.regs
 lV : b.vs.length = 4
def Bd.Wf.ln (h : b.Wf) : b.Ln := ⟨h.lR, h.bR, h.lV⟩
instance : Coe b.Wf b.Ln := ⟨Bd.Wf.ln⟩
def Bd.Ln.r_ (h : b.Ln) (n : Nat) : 0 ≤ b.r n ∧ b.r n < 256 := h.bR.get n
def Bd.Ln.setV (h : b.Ln) (n : Nat) (x : Vc) : (b.setV n x).Ln := ⟨h.lR, h.bR, y_c2⟩
def Bd.Ln.slide_ (h : b.Ln) (x : Int) : ({ b with slide := x } : Bd).Ln := ⟨h.lR, h.bR, h.lV⟩
def cBd_len (h : b.Ln) : (cBd b).length = 70 := by simp [cBd, h.lR, h.lV, flat4]
def cBd_r (h : b.Ln) {j : Nat} (hj : j < 48) : (cBd b)[j]? = some (.int .u8 (b.r j)) := eG (dL y_c9)
def zT (h : b.Ln) {j : Nat} {v : AH} (hv : ([.bool b.on, .int .i64 b.div, .int .i64 b.step] : AA)[j]? = some v) : (cBd b)[48 + j]? = some v := cH (n := j) y_db (eG hv)
def cBd_on (h : b.Ln) : (cBd b)[48]? = some (.bool b.on) := zT h (j := 0) rfl
def aCC (h : b.Ln) : (cBd b)[49]? = some (.int .i64 b.div) := zT h (j := 1) rfl
def cBd_step (h : b.Ln) : (cBd b)[50]? = some (.int .i64 b.step) := zT h (j := 2) rfl
def oJ (h : b.Ln) {n k : Nat} {x : AH} (hn : n < 4) (hx : (cVc (b.v n))[k]? = some x) : (cBd b)[51 + n * 4 + k]? = some x := by
 rw [dg]
 exact cH (n := 3 + (n * 4 + k)) y_cq (cH (n := n * 4 + k) rfl (eG (aFq _ _ _ _ (by rw [h.lV]; exact hn) hx)))
def aAI (h : b.Ln) {j : Nat} {v : AH} (hv : ([.int .i64 b.pitch, .int .i64 b.slide, .bool b.slides] : AA)[j]? = some v) : (cBd b)[67 + j]? = some v :=
 cH (n := 19 + j) y_cq (cH (n := 16 + j) (by show 19 + j = 3 + (16 + j); omega) (cH (n := j) (by rw [flat4, h.lV]) hv))
def rE (h : b.Ln) : (cBd b)[67]? = some (.int .i64 b.pitch) := aAI h (j := 0) rfl
def yJ (h : b.Ln) : (cBd b)[68]? = some (.int .i64 b.slide) := aAI h (j := 1) rfl
def aH4 (h : b.Ln) : (cBd b)[69]? = some (.bool b.slides) := aAI h (j := 2) rfl
def putBd_r (h : b.Ln) {j : Nat} (hj : j < 48) (x : Int) : aP (cBd b) j [.int .u8 x] = cBd (putB j x b) := by
 unfold cBd
 rw [eU (by rw [Lm_, h.lR, aq]; omega), jE .u8 y_c9]
 rfl
def uT (h : b.Ln) {j : Nat} {v : AH} (hj : j < 3) : aP (cBd b) (48 + j) [v] = b.regs.map (.int .u8) ++ (aP [.bool b.on, .int .i64 b.div, .int .i64 b.step] j [v] ++ (aE cVc b.vs ++ [.int .i64 b.pitch, .int .i64 b.slide, .bool b.slides])) := by
 unfold cBd
 rw [bQ (n := j) y_db y_bS, eU y_bS]
def aFJ (h : b.Ln) (x : Bool) : aP (cBd b) 48 [.bool x] = cBd { b with on := x } := uT h (j := 0) y_b
def zE (h : b.Ln) (x : Int) : aP (cBd b) 49 [.int .i64 x] = cBd { b with div := x } := uT h (j := 1) y_b
def putBd_step (h : b.Ln) (x : Int) : aP (cBd b) 50 [.int .i64 x] = cBd { b with step := x } := uT h (j := 2) y_b
def putBd_v (h : b.Ln) {n k : Nat} {x : AH} {y : Vc} (hn : n < 4) (hk : k < 4) (hy : (cVc (b.v n)).set k x = cVc y) : aP (cBd b) (51 + n * 4 + k) [x] = cBd (b.setV n y) := by
 rw [dg]
 unfold cBd
 rw [bQ (n := 3 + (n * 4 + k)) y_cq y_cI, bQ (A := [.bool b.on, .int .i64 b.div, .int .i64 b.step]) (o := 3 + (n * 4 + k)) (n := n * 4 + k) rfl y_cI, eU (by rw [flat4, h.lV, aq]; omega),
  aDf b.vs n k x y (by rw [h.lV]; exact hn) hk hy]
 rfl
def xA (h : b.Ln) {j : Nat} {v : AH} (hj : j < 3) : aP (cBd b) (67 + j) [v] = b.regs.map (.int .u8) ++ ([.bool b.on, .int .i64 b.div, .int .i64 b.step] ++ (aE cVc b.vs ++ aP [.int .i64 b.pitch, .int .i64 b.slide, .bool b.slides] j [v])) := by
 unfold cBd
 rw [bQ (n := 19 + j) y_cq y_cI, bQ (A := [.bool b.on, .int .i64 b.div, .int .i64 b.step]) (o := 19 + j) (n := 16 + j) (by show 19 + j = 3 + (16 + j); omega) y_cI, bQ (n := j) (by rw [flat4, h.lV]) y_bS]
def uW (h : b.Ln) (x : Int) : aP (cBd b) 67 [.int .i64 x] = cBd { b with pitch := x } := xA h (j := 0) y_b
def uK (h : b.Ln) (x : Int) : aP (cBd b) 68 [.int .i64 x] = cBd { b with slide := x } := xA h (j := 1) y_b
def yF (h : b.Ln) (x : Bool) : aP (cBd b) 69 [.bool x] = cBd { b with slides := x } := xA h (j := 2) y_b
def v_set (h : b.Ln) {n : Nat} (hn : n < 4) (x : Vc) : (b.setV n x).v n = x := by
 unfold Bd.v Bd.setV
 rw [Gd_, gh (by rw [h.lV]; exact hn)]; rfl
def setV_same (h : b.Ln) {n : Nat} (hn : n < 4) : b.setV n (b.v n) = b := by
 have hl : n < b.vs.length := by rw [h.lV]; exact hn
 have h1 : b.v n = b.vs[n] := by unfold Bd.v; rw [Gd_, am hl]; rfl
 show ({ b with vs := b.vs.set n (b.v n) } : Bd) = b
 rw [h1, List.set_getElem_self]
def setV_setV (b : Bd) (n : Nat) (x y : Vc) : (b.setV n x).setV n y = b.setV n y := by unfold Bd.setV; dsimp only; rw [List.set_set]
def aJN {v : Nat} {x : Vc} (h : ¬ (v = 2 ∨ b.r (5 * v + 2) % 8 = 0)) (h2 : 0 < x.wait - 1) : levV b v x = { x with wait := x.wait - 1 } := by unfold levV; rw [if_neg h, if_pos h2]
def aPl {v : Nat} {x : Vc} (h : ¬ (v = 2 ∨ b.r (5 * v + 2) % 8 = 0)) (h2 : ¬ 0 < x.wait - 1) (h3 : b.r (5 * v + 2) / 8 % 2 = 1) : levV b v x = { x with wait := b.r (5 * v + 2) % 8, lev := min (x.lev + 1) 15 } := by unfold levV; rw [if_neg h, if_neg h2, if_pos h3]
def aII {v : Nat} {x : Vc} (h : ¬ (v = 2 ∨ b.r (5 * v + 2) % 8 = 0)) (h2 : ¬ 0 < x.wait - 1) (h3 : ¬ b.r (5 * v + 2) / 8 % 2 = 1) : levV b v x = { x with wait := b.r (5 * v + 2) % 8, lev := max (x.lev - 1) 0 } := by unfold levV; rw [if_neg h, if_neg h2, if_neg h3]
def aHo (h : b.slides = false) : slideB b = b := if_pos h
section
variable (h1 : b.slides = true)
include h1
def aF0 (h2 : 0 < b.slide - 1) : slideB b = { b with slide := b.slide - 1 } := by unfold slideB; rw [if_neg y_co, if_pos h2]
def aFY (h2 : ¬ 0 < b.slide - 1) (h3 : everyB b = 0) : slideB b = bN { b with slide := b.slide - 1 } := by unfold slideB; rw [if_neg y_co, if_neg h2]; dsimp only; rw [if_pos h3]
def aF6 (h2 : ¬ 0 < b.slide - 1) (h3 : ¬ everyB b = 0) (h4 : nA (bN { b with slide := b.slide - 1 }) = true) : slideB b = kG (bN { b with slide := b.slide - 1 }) := by unfold slideB kG; rw [if_neg y_co, if_neg h2]; dsimp only; rw [if_neg h3, if_pos h4, if_pos h4]
def aJt (h2 : ¬ 0 < b.slide - 1) (h3 : ¬ everyB b = 0) (h4 : nA (bN { b with slide := b.slide - 1 }) = false) (h5 : byB b = 0) : slideB b = bN { b with slide := b.slide - 1 } := by unfold slideB; rw [if_neg y_co, if_neg h2]; dsimp only; rw [if_neg h3, if_neg (by rw [h4]; decide), if_pos h5]
def aIq (h2 : ¬ 0 < b.slide - 1) (h3 : ¬ everyB b = 0) (h4 : nA (bN { b with slide := b.slide - 1 }) = false) (h5 : ¬ byB b = 0) : slideB b = kG (aBF (bN { b with slide := b.slide - 1 })) := by unfold slideB; rw [if_neg y_co, if_neg h2]; dsimp only; rw [if_neg h3, if_neg (by rw [h4]; decide), if_neg h5]
end
def aLN (h : nA b = false) : kG b = b := by unfold kG; rw [if_neg (by rw [h]; decide)]
def aRe (h : b.Wf) : (bN { b with slide := b.slide - 1 }).Wf := by
 have := pP b
 exact ⟨h.lR, h.bR, h.lV, h.div, h.step, h.oV, h.pitch, y_cf⟩
def aPW {x y : Int} (hx : 0 ≤ x ∧ x < 256) (hy : 0 ≤ y ∧ y < 8) : bor .u8 (x / 8 * 8) y = x / 8 * 8 + y := by
 rcases (show y = 0 ∨ y = 1 ∨ y = 2 ∨ y = 3 ∨ y = 4 ∨ y = 5 ∨ y = 6 ∨ y = 7 by omega) with rfl | rfl | rfl | rfl | rfl | rfl | rfl | rfl
 ·exact aW (p := fun x => bor .u8 (x / 8 * 8) 0 = x / 8 * 8 + 0) y_F hx.1 hx.2
 ·exact aW (p := fun x => bor .u8 (x / 8 * 8) 1 = x / 8 * 8 + 1) y_F hx.1 hx.2
 ·exact aW (p := fun x => bor .u8 (x / 8 * 8) 2 = x / 8 * 8 + 2) y_F hx.1 hx.2
 ·exact aW (p := fun x => bor .u8 (x / 8 * 8) 3 = x / 8 * 8 + 3) y_F hx.1 hx.2
 ·exact aW (p := fun x => bor .u8 (x / 8 * 8) 4 = x / 8 * 8 + 4) y_F hx.1 hx.2
 ·exact aW (p := fun x => bor .u8 (x / 8 * 8) 5 = x / 8 * 8 + 5) y_F hx.1 hx.2
 ·exact aW (p := fun x => bor .u8 (x / 8 * 8) 6 = x / 8 * 8 + 6) y_F hx.1 hx.2
 ·exact aW (p := fun x => bor .u8 (x / 8 * 8) 7 = x / 8 * 8 + 7) y_F hx.1 hx.2
def aJr {x : Int} (h : 0 ≤ x ∧ x < 256) : iO .u8 x 7 = x / 8 * 8 := aW (p := fun x => iO .u8 x 7 = x / 8 * 8) y_F h.1 h.2
def aNG {x y : Int} (hx : 0 ≤ x ∧ x < 8) (hy : 0 ≤ y ∧ y < 8) : (bor .i64 x y != 0) = decide (x ≠ 0 ∨ y ≠ 0) := by
 have key : ∀ a b : Fin 8, (bor .i64 (a.val : Int) (b.val : Int) != 0) = decide ((a.val : Int) ≠ 0 ∨ (b.val : Int) ≠ 0) := by decide +kernel
 have h := key ⟨x.toNat, y_B⟩ ⟨y.toNat, y_B⟩
 rw [show ((x.toNat : Nat) : Int) = x from cu hx.1, show ((y.toNat : Nat) : Int) = y from cu hy.1] at h
 exact h
def ones_cBd (b : Bd) : fE (cBd b) = true := by
 have h4 : ∀ l : List Vc, fE (aE cVc l) = true := fun l => by
  induction l with
  | nil => rfl
  | cons v l ih => show fE (cVc v ++ aE cVc l) = true; unfold fE at ih ⊢; rw [g7, ih]; rfl
 have h1 := jF .u8 b.regs
 have h2 := h4 b.vs
 unfold fE at h1 h2 ⊢
 unfold cBd
 rw [g7, g7, g7, h1, h2]
 rfl
def putZ (h : b.Ln) : aP (cBd bdZ) 0 (cBd b) = cBd b := by
 unfold aP
 rw [gb, bw, az, dm (by rw [cBd_len h, cBd_len bdZ_wf]; decide), bq]
def aLr {w : AI} {bb : Nat} (hr : Row w bb 0 (cBd b)) : Row w bb 22 ((b.regs.drop 22).map (.int .u8)) := fun i v hi => by
 have h1 : (cBd b)[22 + i]? = some v := eG (by rw [f5, db] at hi; exact hi)
 have := hr (22 + i) v h1
 rwa [az] at this
def aPr (h : b.Ln) : aP (cBd { bdZ with div := b.div, step := b.step }) 22 (((b.regs.drop 22).map U_).take (min 26 26)) = cBd (offB b) := by
 have hl : ((b.regs.drop 22).map U_).length = 26 := by rw [Lm_, Ld_, h.lR]
 rw [cw (by rw [hl]; decide)]
 unfold cBd
 rw [eU (by rw [hl]; exact ax 48)]
 have h1 : aP ((List.replicate 48 (0 : Int)).map U_) 22 ((b.regs.drop 22).map U_) = (offB b).regs.map (.int .u8) := by
  have e : (offB b).regs = List.replicate 22 0 ++ b.regs.drop 22 := rfl
  have d : List.drop (22 + 26) ((List.replicate 48 (0 : Int)).map U_) = [] := dm (by rw [Lm_, ca]; decide)
  unfold aP
  rw [hl, e, d, aw, bq]
  rfl
 exact cA_ (· ++ _) h1
def qY : ∀ (l : List Vc) (n : Nat), n < l.length → ((aE cVc l).drop (n * 4)).take 4 = cVc (l.getD n vcZ)
 | v :: l, 0, _ => by show List.take 4 (cVc v ++ aE cVc l) = cVc v; rw [g9 (by rw [rV]; exact ax 4)]; rfl
 | v :: l, n + 1, hn => by
  have h1 : (n + 1) * 4 = (cVc v).length + n * 4 := by rw [rV]; omega
  show List.take 4 (List.drop ((n + 1) * 4) (cVc v ++ aE cVc l)) = _
  rw [h1, iy, dm o_m, bw, show (cVc v).length + n * 4 - (cVc v).length = n * 4 by omega, qY l n (by simpa using hn)]
  rfl
def row_vs (h : b.Ln) {w : AI} {bb : Nat} (hr : Row w bb 0 (cBd b)) : Row w bb 51 (aE cVc b.vs) := fun i v hi => by
 have h1 : (cBd b)[51 + i]? = some v := cH (n := 3 + i) y_cq (cH (A := [.bool b.on, .int .i64 b.div, .int .i64 b.step]) (n := i) rfl (eG hi))
 have := hr (51 + i) v h1
 rwa [az] at this
def kC (b : Bd) {n : Nat} (hn : n < 4) (h : (b.v n).on = true) : bor .u8 (onV b n) (2 ^ n) = onV b (n + 1) := by
 have key : ∀ a x y z : Bool, bor .u8 (112 + (if a = true then 128 else 0)) 1 = 112 + (if a = true then 128 else 0) + 1 ∧ bor .u8 (112 + (if a = true then 128 else 0) + (if x = true then 1 else 0)) 2 = 112 + (if a = true then 128 else 0) + (if x = true then 1 else 0) + 2 ∧
   bor .u8 (112 + (if a = true then 128 else 0) + (if x = true then 1 else 0) + (if y = true then 2 else 0)) 4 = 112 + (if a = true then 128 else 0) + (if x = true then 1 else 0) + (if y = true then 2 else 0) + 4 ∧
   bor .u8 (112 + (if a = true then 128 else 0) + (if x = true then 1 else 0) + (if y = true then 2 else 0) + (if z = true then 4 else 0)) 8 = 112 + (if a = true then 128 else 0) + (if x = true then 1 else 0) + (if y = true then 2 else 0) + (if z = true then 4 else 0) + 8 := by decide +kernel
 have k := key b.on (b.v 0).on (b.v 1).on (b.v 2).on
 rcases (show n = 0 ∨ n = 1 ∨ n = 2 ∨ n = 3 by omega) with rfl | rfl | rfl | rfl
 ·show bor .u8 (onV b 0) 1 = onV b 0 + (if (b.v 0).on = true then 1 else 0); rw [if_pos h]; exact k.1
 ·show bor .u8 (onV b 1) 2 = onV b 1 + (if (b.v 1).on = true then 2 else 0); rw [if_pos h]; exact k.2.1
 ·show bor .u8 (onV b 2) 4 = onV b 2 + (if (b.v 2).on = true then 4 else 0); rw [if_pos h]; exact k.2.2.1
 ·show bor .u8 (onV b 3) 8 = onV b 3 + (if (b.v 3).on = true then 8 else 0); rw [if_pos h]; exact k.2.2.2
def aBR (b : Bd) {n : Nat} (h : (b.v n).on = false) : onV b n = onV b (n + 1) := by
 show onV b n = onV b n + (if (b.v n).on = true then 2 ^ n else 0)
 rw [if_neg (by rw [h]; decide)]; omega
def wM (f : Bd → Nat → Vc → Vc) (b : Bd) : ∀ n, (turnV f b n).step = b.step
 | 0 => rfl
 | n + 1 => wM f b n
def qZ (b : Bd) : (halfB b).step = b.step := by unfold halfB; split; exact wM _ _ _; rfl
def aF3 (b : Bd) : (slideB b).step = b.step := by
 unfold slideB kG
 dsimp only
 repeat' split
 all_goals rfl
def beat_step (b : Bd) : (beatB b).step = b.step := by
 unfold beatB
 split
 ·rw [aF3, qZ]
 split
 ·unfold pQ; rw [wM, qZ]
 ·exact qZ b
def aRF {x y : Int} (hy : 0 ≤ y ∧ y < 8) (_hx : 0 ≤ x) : shr .i64 x y = x / 2 ^ y.toNat := by
 unfold shr
 have : min y.toNat IntKind.i64.bits = y.toNat := er (by show y.toNat ≤ 64; omega)
 rw [this, dv]
 exact g5 (fe y_b)
end
structure Ad where
 mb : Nat
 ub : Nat
 rb : Nat
 ob : Nat
 oc : Nat
 sp : AA
 rc : Nat
 rs : AA
 plan : AH
 tab : AH
def aAL (A : Ad) (m : Mm) : AA := [.int .u8 m.flags, .int .u8 m.lets, .int .u64 m.steps, .int .u64 m.cycles, .slice (Q_ A.ob) m.rom.length A.oc, A.plan] ++ (cHd m.hd ++ [A.tab, P_ A.ub, .slice (Q_ A.rb) m.ram.length A.rc])
def fV (A : Ad) (acc : AH) (m : Mm) : AA := aAL A m ++ (m.work.map (.int .u8) ++ (m.high.map (.int .u8) ++ [acc]))
def cMm (A : Ad) (acc : AH) (m : Mm) : AA := cS m.cpu ++ (cBk m.bk ++ (cCk m.ck ++ (cTm m.tm ++ (cPd m.pd ++ (cPt m.pt ++ (cCp m.cp ++ (cBd m.bd ++ fV A acc m)))))))
section
variable {A : Ad} {acc : AH} {m : Mm}
def kA (m : Mm) : AA := cS m.cpu ++ (cBk m.bk ++ (cCk m.ck ++ (cTm m.tm ++ (cPd m.pd ++ (cPt m.pt ++ cCp m.cp)))))
def vA : cMm A acc m = kA m ++ (cBd m.bd ++ fV A acc m) := rfl
def iQ : (kA m).length = 49 := rfl
def midM_len : (aAL A m).length = 16 := rfl
structure MLn (m : Mm) : Prop where
 bd : m.bd.Ln
 work : m.work.length = 8192
 high : m.high.length = 127
def Mm.Wf.ln (h : m.Wf) : MLn m := ⟨h.bd.ln, h.lWork, h.lHigh⟩
def cMm_len (h : MLn m) : (cMm A acc m).length = 8455 := by
 rw [vA, La_, iQ, La_, cBd_len h.bd]
 unfold fV
 rw [La_, midM_len, La_, Lm_, La_, Lm_, h.work, h.high, aq]
def aP8 (h : m.Wf) {a : Int} (_ha : 0 ≤ a ∧ a < 65536) : 0 ≤ aAP a m.bk ∧ aAP a m.bk < m.rom.length := by
 have h1 := aD6 h.bk a
 have h2 := h1.2.2 h.banks
 have h3 := h.lRom
 unfold aAP
 omega
def tG (k : Int) (is : Bool) (m : Mm) : (askM k is m).u = m.u := by unfold askM; split <;> rfl
def aOR (n : Nat) (x : Int) : cMm A acc { m with ram := m.ram.set n x } = cMm A acc m := by
 unfold cMm fV aAL
 dsimp only
 rw [List.length_set]
def nI (k : Int) (is : Bool) (m : Mm) : (askM k is m).ram = m.ram := by unfold askM; split <;> rfl
def nR (k : Int) (is : Bool) (m : Mm) : (askM k is m).rom = m.rom := by unfold askM; split <;> rfl
def aEk (a x : Int) (m : Mm) : (setDeviceM a x m).u = m.u := by
 unfold setDeviceM
 split
 ·exact tG _ _ _
 repeat' split
 all_goals rfl
def aCx (a x : Int) (m : Mm) : (setDeviceM a x m).ram = m.ram := by
 unfold setDeviceM
 split
 ·exact nI _ _ _
 repeat' split
 all_goals rfl
def aKs (a x : Int) (m : Mm) : (pokeM a x m).rom = m.rom := by
 unfold pokeM
 split
 ·unfold mQ; split <;> rfl
 split
 ·exact nR _ _ _
 split
 ·unfold iM; split
  ·rfl
  split <;> rfl
 split
 ·rfl
 split
 ·rfl
 unfold setDeviceM
 split
 ·exact nR _ _ _
 repeat' split
 all_goals rfl
def aCO (m : Mm) : (cyc2 (cyc1 m)).ram = m.ram := (nI _ _ _).trans (nI _ _ _)
def aC3 (m : Mm) : (cyc2 (cyc1 m)).rom = m.rom := (nR _ _ _).trans (nR _ _ _)
def aE1 (m : Mm) : (cyc3 m).ram = m.ram ∧ (cyc3 m).rom = m.rom := by unfold cyc3; split <;> exact ⟨rfl, rfl⟩
def aFn (m : Mm) : (nN m).ram = m.ram ∧ (nN m).rom = m.rom := by unfold nN; split <;> exact ⟨rfl, rfl⟩
def cycleM_ram (m : Mm) : (cycleM m).ram = m.ram := by
 unfold cycleM
 rw [(aFn _).1]
 refine ((nI _ _ _).trans (nI _ _ _)).trans ?_
 show (cyc3 (cyc2 (cyc1 m))).ram = m.ram
 rw [(aE1 _).1, aCO]
def cycleM_rom (m : Mm) : (cycleM m).rom = m.rom := by
 unfold cycleM
 rw [(aFn _).2]
 refine ((nR _ _ _).trans (nR _ _ _)).trans ?_
 show (cyc3 (cyc2 (cyc1 m))).rom = m.rom
 rw [(aE1 _).2, aC3]
def aQi (m : Mm) : (cyc1 m).u = m.u := tG _ _ _
def aQR (m : Mm) : (cyc2 m).u = m.u := tG _ _ _
def cyc5_u (m : Mm) : (cyc5 m).u = tickU m.u := (tG _ _ _).trans (tG _ _ _)
def aL7 (hb : pI m.cp = true) : cyc3 m = { m with cp := tickCp m.cp, u := kH m.u (xM m.cp) (kX (qK m.cp) { m with cp := tickCp m.cp }) } := if_pos (c7 hb)
def aPR (hb : pI m.cp = false) : cyc3 m = m ∧ ({ m with cp := tickCp m.cp } : Mm) = m := by
 have h0 := df hb
 refine ⟨if_neg h0, ?_⟩
 have h1 : tickCp m.cp = m.cp := if_neg h0
 rw [h1]
def Els.laterM {α : Type} {w0 w : AI} {ms : AE} {H : aB} {c : α → AA} {a : AC} {l : List α} (h : Els w0 c a l) (hm : ∀ p, a = some p → p.block ∉ ms) (hw : St w0 ms H w) : Els w c a l := fun hl => by
 obtain ⟨b, off, rfl, hr⟩ := h hl
 exact ⟨b, off, rfl, aR hr (hm _ rfl) w hw⟩
def aM1 {j : Nat} {v : AH} (hv : (kA m)[j]? = some v) : (cMm A acc m)[j]? = some v := eG (A := kA m) hv
def vW (h : MLn m) {j : Nat} {v : AH} (hv : (fV A acc m)[j]? = some v) : (cMm A acc m)[119 + j]? = some v :=
 cH (A := kA m) (n := 70 + j) (by rw [iQ]; omega) (cH (n := j) (by rw [cBd_len h.bd]) hv)
def get_mid (h : MLn m) {j : Nat} {v : AH} (hv : (aAL A m)[j]? = some v) : (cMm A acc m)[119 + j]? = some v := vW h (eG hv)
def aEz (h : MLn m) {j : Nat} (hj : j < 8192) : (cMm A acc m)[135 + j]? = some (.int .u8 (m.work.getD j 0)) := by
 rw [show 135 + j = 119 + (16 + j) by omega]
 exact vW h (cH (n := j) y_cP (eG (dL (by rw [h.work]; exact hj))))
def get_high (h : MLn m) {j : Nat} (hj : j < 127) : (cMm A acc m)[8327 + j]? = some (.int .u8 (m.high.getD j 0)) := by
 rw [show 8327 + j = 119 + (16 + (8192 + j)) by omega]
 exact vW h (cH (n := 8192 + j) y_cP (cH (n := j) y_dn (eG (dL (by rw [h.high]; exact hj)))))
def aGZ (h : MLn m) : (cMm A acc m)[8454]? = some acc := by
 rw [show (8454 : Nat) = 119 + (16 + (8192 + 127)) by omega]
 exact vW h (cH (n := 8192 + 127) y_cP (cH (n := 127) y_dn (cH (n := 0) (by rw [Lm_, h.high]) rfl)))
def nU {w : AI} {b n : Nat} {X S Y : AA} (hr : Row w b 0 (X ++ (S ++ Y))) (hn : X.length = n) : Row w b n S := fun i v hi => by
 have h1 : (X ++ (S ++ Y))[n + i]? = some v := cH (n := i) (by rw [hn]) (eG hi)
 have := hr (n + i) v h1
 rwa [az] at this
variable {w : AI} {b : Nat}
def aEh (hr : Row w b 0 (cMm A acc m)) : Row w b 0 (cS m.cpu) := nU (X := []) hr rfl
def rowM_bk (hr : Row w b 0 (cMm A acc m)) : Row w b 14 (cBk m.bk) := nU (X := cS m.cpu) hr rfl
def rowM_ck (hr : Row w b 0 (cMm A acc m)) : Row w b 22 (cCk m.ck) := nU (X := cS m.cpu ++ cBk m.bk) (Y := cTm m.tm ++ (cPd m.pd ++ (cPt m.pt ++ (cCp m.cp ++ (cBd m.bd ++ fV A acc m))))) hr rfl
def aCy (hr : Row w b 0 (cMm A acc m)) : Row w b 34 (cTm m.tm) := nU (X := cS m.cpu ++ (cBk m.bk ++ cCk m.ck)) (Y := cPd m.pd ++ (cPt m.pt ++ (cCp m.cp ++ (cBd m.bd ++ fV A acc m)))) hr rfl
def aCr (hr : Row w b 0 (cMm A acc m)) : Row w b 39 (cPd m.pd) := nU (X := cS m.cpu ++ (cBk m.bk ++ (cCk m.ck ++ cTm m.tm))) (Y := cPt m.pt ++ (cCp m.cp ++ (cBd m.bd ++ fV A acc m))) hr rfl
def aCb (hr : Row w b 0 (cMm A acc m)) : Row w b 41 (cPt m.pt) := nU (X := cS m.cpu ++ (cBk m.bk ++ (cCk m.ck ++ (cTm m.tm ++ cPd m.pd)))) (Y := cCp m.cp ++ (cBd m.bd ++ fV A acc m)) hr rfl
def rowM_cp (hr : Row w b 0 (cMm A acc m)) : Row w b 47 (cCp m.cp) := nU (X := cS m.cpu ++ (cBk m.bk ++ (cCk m.ck ++ (cTm m.tm ++ (cPd m.pd ++ cPt m.pt))))) (Y := cBd m.bd ++ fV A acc m) hr rfl
def rowM_bd (hr : Row w b 0 (cMm A acc m)) : Row w b 49 (cBd m.bd) := nU (X := kA m) (Y := fV A acc m) hr rfl
def lN {o : Nat} {vs : AA} (hv : o + vs.length ≤ 49) : aP (cMm A acc m) o vs = aP (kA m) o vs ++ (cBd m.bd ++ fV A acc m) := eU (A := kA m) (by rw [iQ]; exact hv)
def aMT (x : CS) : aP (cMm A acc m) 0 (cS x) = cMm A acc { m with cpu := x } := (lN (ag rfl)).trans rfl
def aGD (x : Bk) : aP (cMm A acc m) 14 (cBk x) = cMm A acc { m with bk := x } := (lN (ag rfl)).trans rfl
def putM_ck (x : Ck) : aP (cMm A acc m) 22 (cCk x) = cMm A acc { m with ck := x } := (lN (ag rfl)).trans rfl
def aGE (x : Tm) : aP (cMm A acc m) 34 (cTm x) = cMm A acc { m with tm := x } := (lN (ag rfl)).trans rfl
def aGt (x : Pd) : aP (cMm A acc m) 39 (cPd x) = cMm A acc { m with pd := x } := (lN (ag rfl)).trans rfl
def aGN (x : Pt) : aP (cMm A acc m) 41 (cPt x) = cMm A acc { m with pt := x } := (lN (ag rfl)).trans rfl
def vF (x : Cp) : aP (cMm A acc m) 47 (cCp x) = cMm A acc { m with cp := x } := (lN (ag rfl)).trans rfl
def putM_bd (h : MLn m) {x : Bd} (hx : x.Ln) : aP (cMm A acc m) 49 (cBd x) = cMm A acc { m with bd := x } := by
 rw [vA, bQ (n := 0) (by rw [iQ]) (by rw [La_, cBd_len hx, cBd_len h.bd]; omega), eU (by rw [cBd_len hx, cBd_len h.bd]; decide)]
 have h1 : aP (cBd m.bd) 0 (cBd x) = cBd x := by
  unfold aP
  rw [gb, bw, az, dm (by rw [cBd_len hx, cBd_len h.bd]; decide), bq]
 rw [h1]
 rfl
def wQ (h : MLn m) {o : Nat} {vs : AA} (hv : o + vs.length ≤ (fV A acc m).length) : aP (cMm A acc m) (119 + o) vs = kA m ++ (cBd m.bd ++ aP (fV A acc m) o vs) := by
 rw [vA, bQ (n := 70 + o) (by rw [iQ]; omega) (by rw [La_, cBd_len h.bd]; omega), bQ (n := o) (by rw [cBd_len h.bd]) hv]
def tailM_len (h : MLn m) : (fV A acc m).length = 8336 := by
 unfold fV
 rw [La_, midM_len, La_, Lm_, La_, Lm_, h.work, h.high, aq]
def aAs (h : MLn m) {o : Nat} {v : AH} (hv : o < 16) : aP (cMm A acc m) (119 + o) [v] = kA m ++ (cBd m.bd ++ (aP (aAL A m) o [v] ++ (m.work.map (.int .u8) ++ (m.high.map (.int .u8) ++ [acc])))) := by
 rw [wQ h y_bY]
 unfold fV
 rw [eU (by rw [midM_len, aq]; omega)]
def rN (h : MLn m) (x : Int) : aP (cMm A acc m) 119 [.int .u8 x] = cMm A acc { m with flags := x } := (aAs h (o := 0) y_b).trans rfl
def uF (h : MLn m) (x : Int) : aP (cMm A acc m) 120 [.int .u8 x] = cMm A acc { m with lets := x } := (aAs h (o := 1) y_b).trans rfl
def aH3 (h : MLn m) (x : Int) : aP (cMm A acc m) 121 [.int .u64 x] = cMm A acc { m with steps := x } := (aAs h (o := 2) y_b).trans rfl
def aFX (h : MLn m) (x : Int) : aP (cMm A acc m) 122 [.int .u64 x] = cMm A acc { m with cycles := x } := (aAs h (o := 3) y_b).trans rfl
def aIG (h : MLn m) {j : Nat} (hj : j < 8192) (x : Int) : aP (cMm A acc m) (135 + j) [.int .u8 x] = cMm A acc { m with work := m.work.set j x } := by
 rw [show 135 + j = 119 + (16 + j) by omega, wQ h y_bY]
 unfold fV
 rw [bQ (n := j) y_cP (by rw [La_, Lm_, h.work, aq]; omega), eU (by rw [Lm_, h.work, aq]; omega), jE .u8 (by rw [h.work]; exact hj)]
 rfl
def putM_high (h : MLn m) {j : Nat} (hj : j < 127) (x : Int) : aP (cMm A acc m) (8327 + j) [.int .u8 x] = cMm A acc { m with high := m.high.set j x } := by
 rw [show 8327 + j = 119 + (16 + (8192 + j)) by omega, wQ h y_bY]
 unfold fV
 rw [bQ (n := 8192 + j) y_cP (by rw [La_, Lm_, La_, Lm_, h.work, h.high, aq]; omega), bQ (n := j) y_dn (by rw [La_, Lm_, h.high, aq]; omega), eU (by rw [Lm_, h.high, aq]; omega), jE .u8 (by rw [h.high]; exact hj)]
 rfl
def aEl (h : MLn m) (x : AH) : aP (cMm A acc m) 8454 [x] = cMm A x m := by
 rw [show (8454 : Nat) = 119 + (16 + (8192 + 127)) by omega, wQ h y_bY]
 unfold fV
 rw [bQ (n := 8192 + 127) y_cP (by rw [La_, Lm_, La_, Lm_, h.work, h.high, aq, aq]; omega), bQ (n := 127) y_dn (by rw [La_, Lm_, h.high, aq, aq]; omega), bQ (A := m.high.map (.int .u8)) (B := [acc]) (vs := [x]) (o := 127) (n := 0) (by rw [Lm_, h.high]) (ax 1)]
 rfl
end
def pT (A : Ad) (m : Mm) (H : aB) : Prop := ∃ va Ga, Vec 52 3 va m.acc.length (aE cAc m.acc) Ga ∧ H = Ga ++ [(A.mb, blk (cMm A va m) 130), (A.ub, blk (cU m.u) 204), (A.rb, blk (m.ram.map (.int .u8) ++ A.rs) 5), (A.ob, blk (m.rom.map (.int .u8) ++ A.sp) 5)]
def dV (b : Bool) : Int := if b = true then 1 else 0
def r4 (u : PU) : AB := u.R.set 4 u.line
def aAn (u : PU) : AB := (r4 u).take 6 ++ (r4 u).drop 7
def mD (u : PU) : AB := [u.dot, u.own % 256, u.frames % 256, u.frames / 256, dV u.sig]
def nZ (u : PU) : AB := u.V ++ u.O ++ aAn u ++ mD u
def fU (u : PU) : AB := nZ u ++ u.P
structure Sg where
 a : AC
 c : Nat
 l : AB
def cSg (s : Sg) : AA := [.slice s.a s.l.length s.c]
def cSg_len (s : Sg) : (cSg s).length = 1 := rfl
def kI (l : List Sg) : AB := l.flatMap (·.l)
def aC5 (l : List Sg) (i : Nat) {s : Sg} (h : l[i]? = some s) : kI (l.take (i + 1)) = kI (l.take i) ++ s.l := by
 rw [sQ h]; simp [kI]
def aCa (l : List Sg) (i : Nat) : (kI (l.take i)).length ≤ (kI l).length := by
 conv => rhs; rw [← dj i l]
 simp only [kI, List.flatMap_append, La_]; omega
section
variable {u : PU}
def r4_len (h : u.Wf) : (r4 u).length = 12 := by simp [r4, h.lR]
def aCU (h : u.Wf) : (aAn u).length = 11 := by simp [aAn, r4_len h]
def zH (h : u.Wf) : (nZ u).length = 8368 := by simp [nZ, aCU h, mD, h.lV, h.lO]
def aAS (h : u.Wf) : (fU u).length = 31408 := by simp [fU, zH h, h.lP]
def uE (u : PU) (b b3 : Nat) : List Sg := [⟨some ⟨b, 0, none⟩, 8192, u.V⟩, ⟨some ⟨b, 8192, none⟩, 160, u.O⟩, ⟨some ⟨b3, 0, none⟩, 12, (r4 u).take 6⟩, ⟨some ⟨b3, 7, none⟩, 5, (r4 u).drop 7⟩]
def aDl (u : PU) (b b3 : Nat) : kI (uE u b b3) = u.V ++ u.O ++ aAn u := by simp [kI, uE, aAn]
def aDk (h : u.Wf) (b b3 : Nat) : (kI (uE u b b3)).length = 8363 := by rw [aDl]; simp [aCU h, h.lV, h.lO]
def aKg {w : AI} {b off : Nat} {l : AB} (h : Row w b off (l.map (.int .u8))) (n : Nat) : Row w b off ((l.take n).map (.int .u8)) := fun j v hv => h j v (by
 rw [bz, dz] at hv
 split at hv
 ·rw [bz]; exact hv
 ·simp at hv)
def aJp {w : AI} {b off : Nat} {l : AB} (h : Row w b off (l.map (.int .u8))) (n : Nat) : Row w b (off + n) ((l.drop n).map (.int .u8)) := fun j v hv => by
 have := h (n + j) v (by
  rw [bz, db] at hv
  rw [bz]; exact hv)
 rwa [← dg] at this
def aMD (h : u.Wf) {w : AI} {b b3 : Nat} (hr : Row w b 0 (cU u)) (h3 : Row w b3 0 ((r4 u).map (.int .u8))) : ∀ s ∈ uE u b b3, Ns w .u8 s.a s.l ∧ s.l.length ≤ s.c := by
 intro s hs
 simp only [uE, eu, fi, or_false] at hs
 rcases hs with rfl | rfl | rfl | rfl
 ·exact ⟨Ns.of (rowV hr), by rw [h.lV]; exact ax _⟩
 ·exact ⟨Ns.of (rowO h hr), by rw [h.lO]; exact ax _⟩
 ·exact ⟨Ns.of (aKg h3 6), by simp [r4_len h]⟩
 ·exact ⟨Ns.of (by simpa using aJp h3 7), by simp [r4_len h]⟩
def aSa (h : u.Wf) {w : AI} {b : Nat} (hr : Row w b 0 (cU u)) {i : Nat} (_hi : i < 144) : Row w b (8369 + i * 160) (((u.P.drop (i * 160)).take 160).map (.int .u8)) := fun j v hv => by
 have := aSL h hr (i * 160 + j) v (by
  rw [bz] at hv ⊢
  rw [dz] at hv
  split at hv
  ·rw [db] at hv; exact hv
  ·simp at hv)
 rw [dg]; exact this
def aDz (l : AB) (i : Nat) : l.take (i * 160) ++ (l.drop (i * 160)).take 160 = l.take ((i + 1) * 160) := by
 rw [i9, Nat.one_mul, List.take_add]
end
def aNF (l : AB) : AB := ((l.drop 8352).take 6 ++ 0 :: (l.drop 8358).take 5).set 4 0
def aEd (l : AB) : PU := ⟨l.take 8192, (l.drop 8192).take 160, aNF l, l.getD 8356 0, l.getD 8363 0, l.getD 8364 0, l.getD 8365 0 + 256 * l.getD 8366 0, l.getD 8367 0 == 1, l.drop 8368⟩
def okE (l : AB) : Bool := decide (l.getD 8356 0 < 154) && decide (l.getD 8363 0 < 114) && (iO .u8 (l.getD 8353 0) 120 == 0) && decide (l.getD 8367 0 ≤ 1) && (l.drop 8368).all (fun x => decide (x ≤ 3))
def aEY (l : AB) : Int := if l.length ≠ 31408 then 6 else if okE l = true then 0 else 5
def dgt (x : Int) (i : Nat) : Int := x / 256 ^ i % 256
def cT (n : Nat) (x : Int) : AB := (List.range n).map (dgt x)
def val (l : AB) : Nat → Int
 | 0 => 0
 | i + 1 => val l i + l.getD i 0 * 256 ^ i
def pW (n : Nat) (x : Int) : (cT n x).length = n := by simp [cT]
def aQK (x : Int) (i : Nat) : 0 ≤ dgt x i ∧ dgt x i < 256 := ⟨eh _ y_b, eq _ y_b⟩
def aIO (n : Nat) (x : Int) : aY (cT n x) := fun y hy => by
 simp only [cT, gu, fq] at hy
 obtain ⟨i, _, rfl⟩ := hy
 exact aQK x i
def aCZ (n : Nat) (x : Int) : cT (n + 1) x = cT n x ++ [dgt x n] := by simp [cT, dq]
def aH0 (i : Nat) : (0 : Int) < 256 ^ i := fe y_b
def val_ok {l : AB} (h : aY l) : ∀ i, 0 ≤ val l i ∧ val l i < 256 ^ i
 | 0 => by simp [val]
 | i + 1 => by
  have h1 := val_ok h i
  have h2 := h.get i
  have hp := aH0 i
  have h3 : l.getD i 0 * 256 ^ i ≤ 255 * 256 ^ i := g8 o_m o_m
  have h4 : 0 ≤ l.getD i 0 * 256 ^ i := Int.mul_nonneg h2.1 o_m
  have h5 : (256 : Int) ^ (i + 1) = 256 ^ i * 256 := Int.pow_succ ..
  unfold val
  rw [h5]
  constructor <;> omega
def aDC {l m : AB} : ∀ n, (∀ j, j < n → l.getD j 0 = m.getD j 0) → val l n = val m n
 | 0, _ => rfl
 | n + 1, h => by unfold val; rw [aDC n fun j hj => h j o_m, h n o_m]
def aKD {n i : Nat} (h : i < n) (x : Int) : (cT n x).getD i 0 = dgt x i := by
 unfold cT; rw [Gd_, bz, ei h]; rfl
def aFO (x : Int) : ∀ n m, n ≤ m → val (cT m x) n = x % 256 ^ n
 | 0, _, _ => by show (0 : Int) = x % 1; omega
 | n + 1, m, h => by
  show val (cT m x) n + (cT m x).getD n 0 * 256 ^ n = _
  rw [aFO x n m o_m, aKD o_m, Int.pow_succ]
  unfold dgt
  have hp := aH0 n
  have e1 := gm x (256 ^ n)
  have e2 := gm (x / 256 ^ n) 256
  have e3 : x / (256 ^ n * 256) = x / 256 ^ n / 256 := (Int.ediv_ediv_of_nonneg o_m).symm
  have e4 := gm x (256 ^ n * 256)
  rw [e3] at e4
  have e5 : 256 ^ n * 256 * (x / 256 ^ n / 256) = 256 ^ n * (256 * (x / 256 ^ n / 256)) := Int.mul_assoc ..
  have e6 : 256 ^ n * (x / 256 ^ n) = 256 ^ n * (x / 256 ^ n % 256) + 256 ^ n * (256 * (x / 256 ^ n / 256)) := by rw [← Int.mul_add, e2]
  have e7 : x / 256 ^ n % 256 * 256 ^ n = 256 ^ n * (x / 256 ^ n % 256) := Int.mul_comm ..
  omega
def aAl {a b : Nat} (h : a ≤ b) : (256 : Int) ^ a ≤ 256 ^ b := by
 have h1 := ez (n := 256) y_b h
 have h2 : ((256 ^ a : Nat) : Int) ≤ ((256 ^ b : Nat) : Int) := by omega
 simpa using h2
def aRg {b y : Int} {i : Nat} (hi : i < 8) (hy : y = ((8 * i : Nat) : Int)) (hb : 0 ≤ b ∧ b < 256) : shl .u64 b y = b * 256 ^ i := by
 subst hy
 have h : (2 : Int) ^ min (((8 * i : Nat) : Int)).toNat IntKind.u64.bits = 256 ^ i := by
  rcases (show i = 0 ∨ i = 1 ∨ i = 2 ∨ i = 3 ∨ i = 4 ∨ i = 5 ∨ i = 6 ∨ i = 7 by omega) with rfl | rfl | rfl | rfl | rfl | rfl | rfl | rfl <;> decide
 have h1 := aH0 i
 have h2 := aAl (show i ≤ 7 by omega)
 have h3 : b * 256 ^ i ≤ 255 * 256 ^ i := g8 o_m o_m
 have h4 : 0 ≤ b * 256 ^ i := Int.mul_nonneg hb.1 o_m
 rw [aBC _ h, aBf]
 exact Int.emod_eq_of_lt h4 o_m
def aRh {x y : Int} {i : Nat} (hi : i < 8) (hy : y = ((8 * i : Nat) : Int)) : IntKind.u8.wrap (shr .u64 x y) = dgt x i := by
 subst hy
 rw [eX]
 unfold dgt shr
 have hp := aH0 i
 rw [dv _ (g5 (fe y_b))]
 rcases (show i = 0 ∨ i = 1 ∨ i = 2 ∨ i = 3 ∨ i = 4 ∨ i = 5 ∨ i = 6 ∨ i = 7 by omega) with rfl | rfl | rfl | rfl | rfl | rfl | rfl | rfl
 all_goals rfl
def aQy {A b y : Int} {i : Nat} (hi : i < 8) (hy : y = ((8 * i : Nat) : Int)) (hA : 0 ≤ A ∧ A < 256 ^ i) (hb : 0 ≤ b ∧ b < 256) : bor .u64 A (shl .u64 b y) = A + b * 256 ^ i := by
 rw [aRg hi hy hb]
 have key : ∀ k : Nat, (256 : Int) ^ i = ((2 ^ k : Nat) : Int) → k ≤ 56 → bor .u64 A (b * 256 ^ i) = A + b * 256 ^ i := by
  intro k hk hk2
  have hle : 2 ^ k ≤ 2 ^ 56 := ez y_b hk2
  have hpos : 0 < 2 ^ k := Nat.pow_pos y_b
  rw [hk] at hA ⊢
  obtain ⟨a, rfl⟩ : ∃ a : Nat, A = a := ⟨A.toNat, y_B⟩
  obtain ⟨n, rfl⟩ : ∃ n : Nat, b = n := ⟨b.toNat, y_B⟩
  have h1 : n * 2 ^ k ≤ 255 * 2 ^ k := ew _ o_m
  have h2 : a < 2 ^ k := by omega
  have e1 : ((n : Int) * ((2 ^ k : Nat) : Int)) = ((n * 2 ^ k : Nat) : Int) := (i4 ..).symm
  rw [e1, aPY o_m (by show (a : Int) < 18446744073709551616; omega) o_m (by show ((n * 2 ^ k : Nat) : Int) < 18446744073709551616; omega)]
  have e2 : a ||| n * 2 ^ k = n * 2 ^ k + a := by rw [Nat.or_comm, Nat.mul_comm]; exact (ig h2 n).symm
  rw [bj, bj, e2]
  omega
 rcases (show i = 0 ∨ i = 1 ∨ i = 2 ∨ i = 3 ∨ i = 4 ∨ i = 5 ∨ i = 6 ∨ i = 7 by omega) with rfl | rfl | rfl | rfl | rfl | rfl | rfl | rfl
 ·exact key 0 rfl y_b
 ·exact key 8 rfl y_b
 ·exact key 16 rfl y_b
 ·exact key 24 rfl y_b
 ·exact key 32 rfl y_b
 ·exact key 40 rfl y_b
 ·exact key 48 rfl y_b
 ·exact key 56 rfl y_b
inductive FK where
 | byte
 | word
 | bool
 | int (n : Nat)
 | long (n : Nat)
deriving DecidableEq
def FK.many : FK → Nat
 | .byte => 1
 | .word => 2
 | .bool => 1
 | .int n => n
 | .long n => n
def FK.cell : FK → Int → AH
 | .byte, x => .int .u8 x
 | .word, x => .int .u16 x
 | .bool, x => .bool (x == 1)
 | .int _, x => .int .i64 x
 | .long _, x => .int .u64 x
def FK.at (L : AA) (o : Nat) : Int := match L[o]? with
 | some (.int _ x) => x
 | some (.bool b) => if b = true then 1 else 0
 | _ => 0
def FK.ok : FK → Int → Prop
 | .byte, x => 0 ≤ x ∧ x < 256
 | .word, x => 0 ≤ x ∧ x < 65536
 | .bool, x => x = 0 ∨ x = 1
 | .int _, x => -9223372036854775808 ≤ x ∧ x ≤ 9223372036854775807
 | .long _, x => 0 ≤ x ∧ x < 18446744073709551616
def Fit (k : FK) (L : AA) (o : Nat) : Prop := ∃ x, L[o]? = some (k.cell x) ∧ k.ok x
abbrev Ps := AA × AB
def pass1 (r : Bool) (k : FK) (s : Ps) (o : Nat) : Ps :=
 if r = true then (aP s.1 o [k.cell (val s.2 k.many)], s.2.drop k.many) else (s.1, s.2 ++ cT k.many (FK.at s.1 o))
def aJ (r : Bool) (k : FK) (os : AE) (s : Ps) : Ps := os.foldl (pass1 r k) s
def passes_snoc {r : Bool} {k : FK} {os : AE} {s : Ps} {i o : Nat} (h : os[i]? = some o) : aJ r k (os.take (i + 1)) s = pass1 r k (aJ r k (os.take i) s) o := by
 unfold aJ
 rw [fk, h, fm]
 rfl
def Fit.at {k : FK} {L : AA} {o : Nat} (h : Fit k L o) : L[o]? = some (k.cell (FK.at L o)) ∧ k.ok (FK.at L o) := by
 obtain ⟨x, hx, hk⟩ := h
 have : FK.at L o = x := by
  unfold FK.at; rw [hx]
  cases k <;> try rfl
  rcases hk with rfl | rfl <;> rfl
 rw [this]; exact ⟨hx, hk⟩
def Fit.lt {k : FK} {L : AA} {o : Nat} (h : Fit k L o) : o < L.length := by
 obtain ⟨x, hx, _⟩ := h
 exact (List.getElem?_eq_some_iff.1 hx).1
def sL {l : AA} {o j : Nat} {v : AH} (ho : o < l.length) : (aP l o [v])[j]? = if j = o then some v else l[j]? := by
 have e : aP l o [v] = l.set o v := by
  unfold aP
  rw [cz, if_pos ho, As_]; rfl
 rw [e, d6]
 split
 ·rename_i h; subst h; rw [if_pos rfl]
 ·rename_i h; rw [if_neg (Ne.symm h)]
def Fit.put {k k' : FK} {L : AA} {o o' : Nat} {x : Int} (h : Fit k L o) (h' : Fit k' L o') (hx : k'.ok x) (hk : o = o' → k = k') : Fit k (aP L o' [k'.cell x]) o := by
 by_cases ho : o = o'
 ·subst ho; cases hk rfl
  exact ⟨x, by rw [sL h.lt, if_pos rfl], hx⟩
 ·obtain ⟨y, hy, hky⟩ := h
  exact ⟨y, by rw [sL h'.lt, if_neg ho]; exact hy, hky⟩
def FK.fits : FK → Prop
 | .int n => n ≤ 4
 | .long n => n ≤ 8
 | _ => True
def FK.val_ok {k : FK} (hk : k.fits) {l : AB} (h : aY l) : ∃ y, k.cell (val l k.many) = k.cell y ∧ k.ok y := by
 have hv := Go.Proofs.YtdbgagkcgdlnnaaGreat.val_ok h k.many
 cases k with
 | byte => exact ⟨_, rfl, hv⟩
 | word => exact ⟨_, rfl, hv⟩
 | bool =>
  by_cases h1 : val l 1 = 1
  ·exact ⟨1, by show Value.bool (val l 1 == 1) = _; rw [h1]; rfl, .inr rfl⟩
  ·exact ⟨0, by show Value.bool (val l 1 == 1) = .bool (0 == 1); rw [show (val l 1 == 1) = false by simpa using h1]; rfl, .inl rfl⟩
 | int n =>
  have h4 := aAl (show n ≤ 4 from hk)
  exact ⟨_, rfl, by have := hv.1; show -9223372036854775808 ≤ val l n; simp only [FK.many] at this; omega, by have := hv.2; show val l n ≤ 9223372036854775807; simp only [FK.many] at this; omega⟩
 | long n =>
  have h8 := aAl (show n ≤ 8 from hk)
  exact ⟨_, rfl, hv.1, by have := hv.2; show val l n < 18446744073709551616; simp only [FK.many] at this; omega⟩
def aLM {a b : AB} (ha : aY a) (hb : aY b) : aY (a ++ b) := fun x hx => (List.mem_append.1 hx).elim (ha x) (hb x)
def aKC {a : AB} (h : aY a) (n : Nat) : aY (a.drop n) := fun x hx => h x (ef hx)
section
variable {r : Bool} {k : FK} {s : Ps}
def wS (h : aY s.2) (o : Nat) : aY (pass1 r k s o).2 := by
 unfold pass1
 split
 ·exact aKC h _
 ·exact aLM h (aIO _ _)
def uU : ∀ {os : AE} {s : Ps}, aY s.2 → aY (aJ r k os s).2
 | [], _, h => h
 | o :: os, _, h => uU (os := os) (wS h o)
def aFa (r : Bool) (n : Nat) (m : Nat) : Nat := if r = true then m - n else m + n
def xC : ∀ {os : AE} {s : Ps}, (aJ r k os s).2.length = aFa r (os.length * k.many) s.2.length
 | [], s => by unfold aFa; simp [aJ]
 | o :: os, s => by
  show (aJ r k os (pass1 r k s o)).2.length = _
  rw [xC]
  unfold pass1 aFa
  rw [Lc_, Nat.succ_mul]
  cases r
  ·simp [pW]; omega
  ·simp; omega
def aDq (hf : k.fits) (hb : aY s.2) {o : Nat} (ho : Fit k s.1 o) {k' : FK} {o' : Nat} (h : Fit k' s.1 o') (hk : o' = o → k' = k) : Fit k' (pass1 r k s o).1 o' := by
 unfold pass1
 split
 ·obtain ⟨y, hy, hok⟩ := FK.val_ok hf hb
  show Fit k' (aP s.1 o [k.cell (val s.2 k.many)]) o'
  rw [hy]
  exact h.put ho hok hk
 ·exact h
def rM (hf : k.fits) {k' : FK} {o' : Nat} : ∀ {os : AE} {s : Ps}, aY s.2 → (∀ o ∈ os, Fit k s.1 o) → Fit k' s.1 o' → (o' ∈ os → k' = k) → Fit k' (aJ r k os s).1 o'
 | [], _, _, _, h, _ => h
 | o :: os, s, hb, hs, h, hk => by
  show Fit k' (aJ r k os (pass1 r k s o)).1 o'
  have ho := hs o (.head _)
  exact rM hf (wS hb o) (fun x hx => aDq hf hb ho (hs x (.tail _ hx)) (fun _ => rfl)) (aDq hf hb ho h (fun e => hk (e ▸ .head _))) (fun hx => hk (.tail _ hx))
def aIV {l : AA} {o : Nat} {v : AH} (h : o < l.length) : (aP l o [v]).length = l.length := kS (by simp only [aq]; omega)
def aIB (a b : AE) : aJ r k (a ++ b) s = aJ r k b (aJ r k a s) := fm ..
end
def goes (r : Bool) (n : Nat) (x : Int) (bs : AB) : Int × AB := if r = true then (val bs n, bs.drop n) else (x, bs ++ cT n x)
def aKV {L : AA} {o : Nat} {v : AH} (h : L[o]? = some v) : aP L o [v] = L := by
 have ho := (List.getElem?_eq_some_iff.1 h).1
 refine List.ext_getElem? fun j => ?_
 rw [sL ho]
 split
 ·rename_i e; subst e; exact h.symm
 ·rfl
def pass1_goes {k : FK} {s : Ps} {o : Nat} (h : Fit k s.1 o) (r : Bool) : pass1 r k s o = (aP s.1 o [k.cell (goes r k.many (FK.at s.1 o) s.2).1], (goes r k.many (FK.at s.1 o) s.2).2) := by
 unfold pass1 goes
 cases r
 ·show (s.1, _) = (aP s.1 o [k.cell (FK.at s.1 o)], _); rw [aKV h.at.1]; rfl
 ·rfl
def aGC {r : Bool} {n : Nat} {x : Int} {bs : AB} (hx : 0 ≤ x ∧ x < 256 ^ n) (hb : aY bs) : 0 ≤ (goes r n x bs).1 ∧ (goes r n x bs).1 < 256 ^ n := by
 unfold goes; split
 ·exact Go.Proofs.YtdbgagkcgdlnnaaGreat.val_ok hb n
 ·exact hx
def aOP {x : Int} {i : Nat} (hi : i < 8) : dgt (x % 18446744073709551616) i = dgt x i := by
 unfold dgt
 rcases (show i = 0 ∨ i = 1 ∨ i = 2 ∨ i = 3 ∨ i = 4 ∨ i = 5 ∨ i = 6 ∨ i = 7 by omega) with rfl | rfl | rfl | rfl | rfl | rfl | rfl | rfl
 all_goals omega
def aLX {x : Int} {n : Nat} (hn : n ≤ 8) : cT n (x % 18446744073709551616) = cT n x := by
 unfold cT
 refine List.map_congr_left fun i hi => aOP ?_
 have := List.mem_range.1 hi; omega
def aEH {r : Bool} {n : Nat} {x : Int} {bs : AB} (hn : n ≤ 4) (hx : -9223372036854775808 ≤ x ∧ x ≤ 9223372036854775807) (hb : aY bs) :
  IntKind.i64.wrap (goes r n (x % 18446744073709551616) bs).1 = (goes r n x bs).1 ∧ (goes r n (x % 18446744073709551616) bs).2 = (goes r n x bs).2 := by
 unfold goes
 cases r
 ·exact ⟨by show IntKind.i64.wrap (x % 18446744073709551616) = x; rw [aAa]; omega, by show bs ++ cT n _ = bs ++ cT n _; rw [aLX o_m]⟩
 ·have hv := Go.Proofs.YtdbgagkcgdlnnaaGreat.val_ok hb n
  have h4 := aAl hn
  exact ⟨by show IntKind.i64.wrap (val bs n) = val bs n; rw [aI o_m o_m], rfl⟩
def qL (ty : Nat → Option FK) (L : AA) : Prop := ∀ o k, ty o = some k → Fit k L o
structure eO (r : Bool) (n : Nat) (s : Ps) : Prop where
 byts : aY s.2
 en : r = true → n ≤ s.2.length
 sz : s.2.length + n ≤ 1000000
def eO.pass {r : Bool} {k : FK} {os : AE} {n : Nat} {s : Ps} (h : eO r (os.length * k.many + n) s) : eO r n (aJ r k os s) := by
 have h1 := h.sz
 refine ⟨uU h.byts, fun hr => ?_, ?_⟩
 ·have h2 := h.en hr
  rw [xC]; unfold aFa; rw [if_pos hr]; omega
 ·rw [xC]; unfold aFa; split <;> omega
def eO.le {r : Bool} {n m : Nat} {s : Ps} (h : eO r n s) (hm : m ≤ n) : eO r m s := ⟨h.byts, fun hr => f7 hm (h.en hr), by have := h.sz; omega⟩
def qL.pass {ty : Nat → Option FK} {r : Bool} {k : FK} {os : AE} {s : Ps} (h : qL ty s.1) (hf : k.fits) (hb : aY s.2) (ho : ∀ o ∈ os, ty o = some k) : qL ty (aJ r k os s).1 := fun o' k' h' =>
 rM hf hb (fun o hx => h o k (ho o hx)) (h o' k' h') fun hx => by rw [ho o' hx] at h'; exact (ae h').symm
def eO.at {r : Bool} {k : FK} {os : AE} {s : Ps} {i : Nat} (h : eO r (os.length * k.many) s) (hi : i < os.length) : eO r k.many (aJ r k (os.take i) s) := by
 have h1 : i * k.many + k.many ≤ os.length * k.many := by rw [← Nat.succ_mul]; exact ew _ hi
 exact eO.pass (h.le (by rw [Lt_, er o_m]; exact h1))
def mV {r : Bool} {k : FK} {os : AE} {s : Ps} {i o : Nat} (hk : k.fits) (hb : aY s.2) (hos : ∀ o ∈ os, Fit k s.1 o) (ho : os[i]? = some o) : Fit k (aJ r k (os.take i) s).1 o :=
 rM hk hb (fun x hx => hos x (du hx)) (hos o (ay ho)) (fun _ => rfl)
def cX (o n : Nat) : AE := (List.range n).map (o + ·)
def aMj (o n : Nat) : (cX o n).length = n := by simp [cX]
def aAY {o n x : Nat} (h : x ∈ cX o n) : ∃ i, i < n ∧ x = o + i := by
 simp only [cX, gu, fq] at h
 obtain ⟨i, h1, h2⟩ := h
 exact ⟨i, h1, h2.symm⟩
def sD {o n i : Nat} (h : i < n) : o + i ∈ cX o n := by
 simp only [cX, gu, fq]
 exact ⟨i, h, rfl⟩
def aAz (r : Bool) (k : FK) (o i : Nat) (s : Ps) : aJ r k (cX o (i + 1)) s = aJ r k [o + i] (aJ r k (cX o i) s) := by
 unfold cX
 rw [dq, aw, aIB]; rfl
def LineB (T : Nat) (r : Bool) (va : AH) (bs : AB) (G : aB) : Prop :=
 if r = true then ∃ (cb off c : Nat) (all : AA), va = .slice (some ⟨cb, off, none⟩) bs.length c ∧ bs.length ≤ c ∧ G = [(cb, blk all T)] ∧ ∀ j v, (bs.map U_)[j]? = some v → all[off + j]? = some v
 else Vec T 1 va bs.length (bs.map (.int .u8)) G
def LineB.read {T : Nat} {va : AH} {bs : AB} {G : aB} (h : LineB T true va bs G) : ∃ (cb off c : Nat) (all : AA), va = .slice (some ⟨cb, off, none⟩) bs.length c ∧ bs.length ≤ c ∧ G = [(cb, blk all T)] ∧ ∀ j v, (bs.map U_)[j]? = some v → all[off + j]? = some v := h
def LineB.write {T : Nat} {va : AH} {bs : AB} {G : aB} (h : LineB T false va bs G) : Vec T 1 va bs.length (bs.map (.int .u8)) G := h
def LineB.cut {T cb off c n : Nat} {bs : AB} {all : AA} (hle : bs.length ≤ c) (hn : n ≤ bs.length) (hall : ∀ j v, (bs.map U_)[j]? = some v → all[off + j]? = some v) :
  LineB T true (.slice (some ⟨cb, cut1 off n c, none⟩) (bs.length - n) (c - n)) (bs.drop n) [(cb, blk all T)] := by
 refine ⟨cb, cut1 off n c, c - n, all, by rw [Ld_], by rw [Ld_]; omega, rfl, fun j v hv => ?_⟩
 rw [f5, db] at hv
 by_cases hc : c = n
 ·rw [da (by rw [Lm_]; omega)] at hv; cases hv
 ·rw [sA hc, dg]; exact hall _ _ hv
def aEU (b : Nat) (o : Nat) : AA := [.pointer (some ⟨b, o, none⟩)]
def cPtr_len (b o : Nat) : (aEU b o).length = 1 := rfl
def St.apartT {w0 w : AI} {ms : AE} {A : aB} {x : Nat × Obj} {G : aB} (hw : St w0 ms (A ++ ([x] ++ G)) w) : x.1 ∉ A.map (·.1) := fun hx => by
 have h := hw.nodup
 rw [aw, cx] at h
 exact h.2.2 _ hx _ y_v rfl
end Go.Proofs.YtdbgagkcgdlnnaaGreat
