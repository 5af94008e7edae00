/- Parts. -/
import Derived.Test.YtdbgagkcgdlnnaaGreatQtL
set_option maxRecDepth 100000
set_option maxHeartbeats 1000000
set_option linter.all false
namespace Go.Proofs.YtdbgagkcgdlnnaaGreat
open Go Go.VV Go.Proofs Go.RowKit Go.Proofs.Tryz
def aHW (o : Opr) : List UInt8 × Nat × List UInt8 :=
 if o.kind = 2 then ([115, 116, 111, 112, 32], 2, [])
 else if o.kind = 8 then ([108, 100, 32] ++ cG o.x pB ++ [44, 32], 2, [])
 else if o.kind = 9 then ([108, 100, 32] ++ cG o.x rJ ++ [44, 32], 4, [])
 else if o.kind = 11 then (cG o.x yV ++ [32, 97, 44, 32], 2, [])
 else if o.kind = 23 then (if o.x = 4 then ([106, 114, 32], 2, []) else ([106, 114, 32] ++ cG o.x rS ++ [44, 32], 2, []))
 else if o.kind = 24 then (if o.x = 4 then ([106, 112, 32], 4, []) else ([106, 112, 32] ++ cG o.x rS ++ [44, 32], 4, []))
 else if o.kind = 25 then (if o.x = 4 then ([99, 97, 108, 108, 32], 4, []) else ([99, 97, 108, 108, 32] ++ cG o.x rS ++ [44, 32], 4, []))
 else if o.kind = 34 then ([108, 100, 104, 32, 97, 44, 32, 40], 2, [41])
 else if o.kind = 35 then ([108, 100, 104, 32, 40], 2, [41, 44, 32, 97])
 else if o.kind = 38 then ([108, 100, 32, 97, 44, 32, 40], 4, [41])
 else if o.kind = 39 then ([108, 100, 32, 40], 4, [41, 44, 32, 97])
 else if o.kind = 40 then ([108, 100, 32, 40], 4, [41, 44, 32, 115, 112])
 else if o.kind = 41 then ([97, 100, 100, 32, 115, 112, 44, 32], 2, [])
 else if o.kind = 42 then ([108, 100, 32, 104, 108, 44, 32, 115, 112, 43], 2, [])
 else (txt { o with n := 0 }, 0, [])
def lI (o : Opr) : List UInt8 × Nat × List UInt8 := if o.kind = 28 then ([114, 115, 116, 32] ++ jH o.n.toNat 2, 0, []) else aHW o
def aJ1 (n m : Nat) : jH n (m + 1) ≠ [] := by rw [aCY]; simp
def aEE {o : Opr} (h : 1 ≤ o.kind ∧ o.kind ≤ 46) : txt o = (lI o).1 ++ jH o.n.toNat (lI o).2.1 ++ (lI o).2.2 := by
 have e2 : h2 o = jH o.n.toNat 2 := rfl
 have e4 : h4 o = jH o.n.toNat 4 := rfl
 have n2 : jH o.n.toNat 2 ≠ [] := aJ1 _ 1
 have n4 : jH o.n.toNat 4 ≠ [] := aJ1 _ 3
 have e0 : jH o.n.toNat 0 = [] := rfl
 have hk : o.kind = 1 ∨ o.kind = 2 ∨ o.kind = 3 ∨ o.kind = 4 ∨ o.kind = 5 ∨ o.kind = 6 ∨ o.kind = 7 ∨ o.kind = 8 ∨ o.kind = 9 ∨ o.kind = 10 ∨ o.kind = 11 ∨ o.kind = 12 ∨ o.kind = 13 ∨ o.kind = 14 ∨ o.kind = 15 ∨ o.kind = 16 ∨ o.kind = 17 ∨ o.kind = 18 ∨ o.kind = 19 ∨ o.kind = 20 ∨ o.kind = 21 ∨ o.kind = 22 ∨ o.kind = 23 ∨ o.kind = 24 ∨ o.kind = 25 ∨ o.kind = 26 ∨ o.kind = 27 ∨ o.kind = 28 ∨ o.kind = 29 ∨ o.kind = 30 ∨ o.kind = 31 ∨ o.kind = 32 ∨ o.kind = 33 ∨ o.kind = 34 ∨ o.kind = 35 ∨ o.kind = 36 ∨ o.kind = 37 ∨ o.kind = 38 ∨ o.kind = 39 ∨ o.kind = 40 ∨ o.kind = 41 ∨ o.kind = 42 ∨ o.kind = 43 ∨ o.kind = 44 ∨ o.kind = 45 ∨ o.kind = 46 := by omega
 rcases hk with h | h | h | h | h | h | h | h | h | h | h | h | h | h | h | h | h | h | h | h | h | h | h | h | h | h | h | h | h | h | h | h | h | h | h | h | h | h | h | h | h | h | h | h | h | h
 all_goals first
  | (simp [txt, restL, aloneL, lI, aHW, h, e0, e2, e4]; done)
  | (by_cases hx : o.x = 4 <;> simp [txt, restL, aloneL, lI, aHW, h, e0, e2, e4, whenL, hx, n2, n4])
def aLd {o : Opr} (b w : Int) (h : o.kind = 28 → o.size = 1) : lI (rL o b w) = lI o := by
 by_cases h28 : o.kind = 28
 ·rw [aBp (by have := h h28; omega) (by have := h h28; omega)]
 ·have e : (rL o b w).kind = o.kind := rfl
  unfold lI
  rw [e, if_neg h28, if_neg h28]
  rfl
def aRD (c : Nat) : Bool := (Nat.ble 48 c && Nat.ble c 57) || (Nat.ble 97 c && Nat.ble c 102)
def Mat : AE → List UInt8 → Prop
 | [], [] => True
 | 0 :: p, d :: l => aRD d.toNat = true ∧ Mat p l
 | (c + 1) :: p, d :: l => d.toNat = c + 1 ∧ Mat p l
 | _, _ => False
def sC : ∀ {p q : AE} {l m : List UInt8}, Mat p l → Mat q m → Mat (p ++ q) (l ++ m)
 | [], _, [], _, _, h => h
 | 0 :: _, _, _ :: _, _, h1, h2 => ⟨h1.1, sC h1.2 h2⟩
 | (_ + 1) :: _, _, _ :: _, _, h1, h2 => ⟨h1.1, sC h1.2 h2⟩
 | [], _, _ :: _, _, h, _ => h.elim
 | c :: _, _, [], _, h, _ => by cases c <;> exact h.elim
def aDT (l : List UInt8) : AE := l.map (·.toNat)
def qU : ∀ {l : List UInt8}, l.all (fun c => Nat.blt 0 c.toNat) = true → Mat (aDT l) l
 | [], _ => trivial
 | c :: l, h => by
  simp only [ij, al] at h
  have h1 : 0 < c.toNat := de gr (ag h.1)
  obtain ⟨m, hm⟩ : ∃ m, c.toNat = m + 1 := ⟨c.toNat - 1, y_B⟩
  simp only [aDT, be, hm]
  exact ⟨hm, qU h.2⟩
def aPc : ∀ m, m < 16 → aRD (dig m).toNat = true := by decide
def aCt (n : Nat) : ∀ k, Mat (List.replicate k 0) (jH n k)
 | 0 => trivial
 | k + 1 => by rw [aCY, List.replicate_succ]; exact ⟨aPc _ (gv _ y_b), aCt n k⟩
def aAw (o : Opr) : AE := aDT (lI o).1 ++ List.replicate (lI o).2.1 0 ++ aDT (lI o).2.2
def aFg (o : Opr) : Bool := (lI o).1.all (fun c => Nat.blt 0 c.toNat) && (lI o).2.2.all (fun c => Nat.blt 0 c.toNat)
def PT : List (List Nat) := [[110, 111, 112], [108, 100, 32, 98, 99, 44, 32, 0, 0, 0, 0], [108, 100, 32, 40, 98, 99, 41, 44, 32, 97], [105, 110, 99, 32, 98, 99], [105, 110, 99, 32, 98], [100, 101, 99, 32, 98], [108, 100, 32, 98, 44, 32, 0, 0], [114, 108, 99, 97], [108, 100, 32, 40, 0, 0, 0, 0, 41, 44, 32, 115, 112], [97, 100, 100, 32, 104, 108, 44, 32, 98, 99], [108, 100, 32, 97, 44, 32, 40, 98, 99, 41], [100, 101, 99, 32, 98, 99], [105, 110, 99, 32, 99], [100, 101, 99, 32, 99], [108, 100, 32, 99, 44, 32, 0, 0], [114, 114, 99, 97], [115, 116, 111, 112, 32, 0, 0], [108, 100, 32, 100, 101, 44, 32, 0, 0, 0, 0], [108, 100, 32, 40, 100, 101, 41, 44, 32, 97], [105, 110, 99, 32, 100, 101], [105, 110, 99, 32, 100], [100, 101, 99, 32, 100], [108, 100, 32, 100, 44, 32, 0, 0], [114, 108, 97], [106, 114, 32, 0, 0], [97, 100, 100, 32, 104, 108, 44, 32, 100, 101], [108, 100, 32, 97, 44, 32, 40, 100, 101, 41], [100, 101, 99, 32, 100, 101], [105, 110, 99, 32, 101], [100, 101, 99, 32, 101], [108, 100, 32, 101, 44, 32, 0, 0], [114, 114, 97], [106, 114, 32, 110, 122, 44, 32, 0, 0], [108, 100, 32, 104, 108, 44, 32, 0, 0, 0, 0], [108, 100, 32, 40, 104, 108, 43, 41, 44, 32, 97], [105, 110, 99, 32, 104, 108], [105, 110, 99, 32, 104], [100, 101, 99, 32, 104], [108, 100, 32, 104, 44, 32, 0, 0], [100, 97, 97], [106, 114, 32, 122, 44, 32, 0, 0], [97, 100, 100, 32, 104, 108, 44, 32, 104, 108], [108, 100, 32, 97, 44, 32, 40, 104, 108, 43, 41], [100, 101, 99, 32, 104, 108], [105, 110, 99, 32, 108], [100, 101, 99, 32, 108], [108, 100, 32, 108, 44, 32, 0, 0], [99, 112, 108], [106, 114, 32, 110, 99, 44, 32, 0, 0], [108, 100, 32, 115, 112, 44, 32, 0, 0, 0, 0], [108, 100, 32, 40, 104, 108, 45, 41, 44, 32, 97], [105, 110, 99, 32, 115, 112], [105, 110, 99, 32, 40, 104, 108, 41], [100, 101, 99, 32, 40, 104, 108, 41], [108, 100, 32, 40, 104, 108, 41, 44, 32, 0, 0], [115, 99, 102], [106, 114, 32, 99, 44, 32, 0, 0], [97, 100, 100, 32, 104, 108, 44, 32, 115, 112], [108, 100, 32, 97, 44, 32, 40, 104, 108, 45, 41], [100, 101, 99, 32, 115, 112], [105, 110, 99, 32, 97], [100, 101, 99, 32, 97], [108, 100, 32, 97, 44, 32, 0, 0], [99, 99, 102], [108, 100, 32, 98, 44, 32, 98], [108, 100, 32, 98, 44, 32, 99], [108, 100, 32, 98, 44, 32, 100], [108, 100, 32, 98, 44, 32, 101], [108, 100, 32, 98, 44, 32, 104], [108, 100, 32, 98, 44, 32, 108], [108, 100, 32, 98, 44, 32, 40, 104, 108, 41], [108, 100, 32, 98, 44, 32, 97], [108, 100, 32, 99, 44, 32, 98], [108, 100, 32, 99, 44, 32, 99], [108, 100, 32, 99, 44, 32, 100], [108, 100, 32, 99, 44, 32, 101], [108, 100, 32, 99, 44, 32, 104], [108, 100, 32, 99, 44, 32, 108], [108, 100, 32, 99, 44, 32, 40, 104, 108, 41], [108, 100, 32, 99, 44, 32, 97], [108, 100, 32, 100, 44, 32, 98], [108, 100, 32, 100, 44, 32, 99], [108, 100, 32, 100, 44, 32, 100], [108, 100, 32, 100, 44, 32, 101], [108, 100, 32, 100, 44, 32, 104], [108, 100, 32, 100, 44, 32, 108], [108, 100, 32, 100, 44, 32, 40, 104, 108, 41], [108, 100, 32, 100, 44, 32, 97], [108, 100, 32, 101, 44, 32, 98], [108, 100, 32, 101, 44, 32, 99], [108, 100, 32, 101, 44, 32, 100], [108, 100, 32, 101, 44, 32, 101], [108, 100, 32, 101, 44, 32, 104], [108, 100, 32, 101, 44, 32, 108], [108, 100, 32, 101, 44, 32, 40, 104, 108, 41], [108, 100, 32, 101, 44, 32, 97], [108, 100, 32, 104, 44, 32, 98], [108, 100, 32, 104, 44, 32, 99], [108, 100, 32, 104, 44, 32, 100], [108, 100, 32, 104, 44, 32, 101], [108, 100, 32, 104, 44, 32, 104], [108, 100, 32, 104, 44, 32, 108], [108, 100, 32, 104, 44, 32, 40, 104, 108, 41], [108, 100, 32, 104, 44, 32, 97], [108, 100, 32, 108, 44, 32, 98], [108, 100, 32, 108, 44, 32, 99], [108, 100, 32, 108, 44, 32, 100], [108, 100, 32, 108, 44, 32, 101], [108, 100, 32, 108, 44, 32, 104], [108, 100, 32, 108, 44, 32, 108], [108, 100, 32, 108, 44, 32, 40, 104, 108, 41], [108, 100, 32, 108, 44, 32, 97], [108, 100, 32, 40, 104, 108, 41, 44, 32, 98], [108, 100, 32, 40, 104, 108, 41, 44, 32, 99], [108, 100, 32, 40, 104, 108, 41, 44, 32, 100], [108, 100, 32, 40, 104, 108, 41, 44, 32, 101], [108, 100, 32, 40, 104, 108, 41, 44, 32, 104], [108, 100, 32, 40, 104, 108, 41, 44, 32, 108], [104, 97, 108, 116], [108, 100, 32, 40, 104, 108, 41, 44, 32, 97], [108, 100, 32, 97, 44, 32, 98], [108, 100, 32, 97, 44, 32, 99], [108, 100, 32, 97, 44, 32, 100], [108, 100, 32, 97, 44, 32, 101], [108, 100, 32, 97, 44, 32, 104], [108, 100, 32, 97, 44, 32, 108], [108, 100, 32, 97, 44, 32, 40, 104, 108, 41], [108, 100, 32, 97, 44, 32, 97], [97, 100, 100, 32, 97, 44, 32, 98], [97, 100, 100, 32, 97, 44, 32, 99], [97, 100, 100, 32, 97, 44, 32, 100], [97, 100, 100, 32, 97, 44, 32, 101], [97, 100, 100, 32, 97, 44, 32, 104], [97, 100, 100, 32, 97, 44, 32, 108], [97, 100, 100, 32, 97, 44, 32, 40, 104, 108, 41], [97, 100, 100, 32, 97, 44, 32, 97], [97, 100, 99, 32, 97, 44, 32, 98], [97, 100, 99, 32, 97, 44, 32, 99], [97, 100, 99, 32, 97, 44, 32, 100], [97, 100, 99, 32, 97, 44, 32, 101], [97, 100, 99, 32, 97, 44, 32, 104], [97, 100, 99, 32, 97, 44, 32, 108], [97, 100, 99, 32, 97, 44, 32, 40, 104, 108, 41], [97, 100, 99, 32, 97, 44, 32, 97], [115, 117, 98, 32, 97, 44, 32, 98], [115, 117, 98, 32, 97, 44, 32, 99], [115, 117, 98, 32, 97, 44, 32, 100], [115, 117, 98, 32, 97, 44, 32, 101], [115, 117, 98, 32, 97, 44, 32, 104], [115, 117, 98, 32, 97, 44, 32, 108], [115, 117, 98, 32, 97, 44, 32, 40, 104, 108, 41], [115, 117, 98, 32, 97, 44, 32, 97], [115, 98, 99, 32, 97, 44, 32, 98], [115, 98, 99, 32, 97, 44, 32, 99], [115, 98, 99, 32, 97, 44, 32, 100], [115, 98, 99, 32, 97, 44, 32, 101], [115, 98, 99, 32, 97, 44, 32, 104], [115, 98, 99, 32, 97, 44, 32, 108], [115, 98, 99, 32, 97, 44, 32, 40, 104, 108, 41], [115, 98, 99, 32, 97, 44, 32, 97], [97, 110, 100, 32, 97, 44, 32, 98], [97, 110, 100, 32, 97, 44, 32, 99], [97, 110, 100, 32, 97, 44, 32, 100], [97, 110, 100, 32, 97, 44, 32, 101], [97, 110, 100, 32, 97, 44, 32, 104], [97, 110, 100, 32, 97, 44, 32, 108], [97, 110, 100, 32, 97, 44, 32, 40, 104, 108, 41], [97, 110, 100, 32, 97, 44, 32, 97], [120, 111, 114, 32, 97, 44, 32, 98], [120, 111, 114, 32, 97, 44, 32, 99], [120, 111, 114, 32, 97, 44, 32, 100], [120, 111, 114, 32, 97, 44, 32, 101], [120, 111, 114, 32, 97, 44, 32, 104], [120, 111, 114, 32, 97, 44, 32, 108], [120, 111, 114, 32, 97, 44, 32, 40, 104, 108, 41], [120, 111, 114, 32, 97, 44, 32, 97], [111, 114, 32, 97, 44, 32, 98], [111, 114, 32, 97, 44, 32, 99], [111, 114, 32, 97, 44, 32, 100], [111, 114, 32, 97, 44, 32, 101], [111, 114, 32, 97, 44, 32, 104], [111, 114, 32, 97, 44, 32, 108], [111, 114, 32, 97, 44, 32, 40, 104, 108, 41], [111, 114, 32, 97, 44, 32, 97], [99, 112, 32, 97, 44, 32, 98], [99, 112, 32, 97, 44, 32, 99], [99, 112, 32, 97, 44, 32, 100], [99, 112, 32, 97, 44, 32, 101], [99, 112, 32, 97, 44, 32, 104], [99, 112, 32, 97, 44, 32, 108], [99, 112, 32, 97, 44, 32, 40, 104, 108, 41], [99, 112, 32, 97, 44, 32, 97], [114, 101, 116, 32, 110, 122], [112, 111, 112, 32, 98, 99], [106, 112, 32, 110, 122, 44, 32, 0, 0, 0, 0], [106, 112, 32, 0, 0, 0, 0], [99, 97, 108, 108, 32, 110, 122, 44, 32, 0, 0, 0, 0], [112, 117, 115, 104, 32, 98, 99], [97, 100, 100, 32, 97, 44, 32, 0, 0], [114, 115, 116, 32, 48, 48], [114, 101, 116, 32, 122], [114, 101, 116], [106, 112, 32, 122, 44, 32, 0, 0, 0, 0], [98, 97, 100], [99, 97, 108, 108, 32, 122, 44, 32, 0, 0, 0, 0], [99, 97, 108, 108, 32, 0, 0, 0, 0], [97, 100, 99, 32, 97, 44, 32, 0, 0], [114, 115, 116, 32, 48, 56], [114, 101, 116, 32, 110, 99], [112, 111, 112, 32, 100, 101], [106, 112, 32, 110, 99, 44, 32, 0, 0, 0, 0], [98, 97, 100], [99, 97, 108, 108, 32, 110, 99, 44, 32, 0, 0, 0, 0], [112, 117, 115, 104, 32, 100, 101], [115, 117, 98, 32, 97, 44, 32, 0, 0], [114, 115, 116, 32, 49, 48], [114, 101, 116, 32, 99], [114, 101, 116, 105], [106, 112, 32, 99, 44, 32, 0, 0, 0, 0], [98, 97, 100], [99, 97, 108, 108, 32, 99, 44, 32, 0, 0, 0, 0], [98, 97, 100], [115, 98, 99, 32, 97, 44, 32, 0, 0], [114, 115, 116, 32, 49, 56], [108, 100, 104, 32, 40, 0, 0, 41, 44, 32, 97], [112, 111, 112, 32, 104, 108], [108, 100, 104, 32, 40, 99, 41, 44, 32, 97], [98, 97, 100], [98, 97, 100], [112, 117, 115, 104, 32, 104, 108], [97, 110, 100, 32, 97, 44, 32, 0, 0], [114, 115, 116, 32, 50, 48], [97, 100, 100, 32, 115, 112, 44, 32, 0, 0], [106, 112, 32, 104, 108], [108, 100, 32, 40, 0, 0, 0, 0, 41, 44, 32, 97], [98, 97, 100], [98, 97, 100], [98, 97, 100], [120, 111, 114, 32, 97, 44, 32, 0, 0], [114, 115, 116, 32, 50, 56], [108, 100, 104, 32, 97, 44, 32, 40, 0, 0, 41], [112, 111, 112, 32, 97, 102], [108, 100, 104, 32, 97, 44, 32, 40, 99, 41], [100, 105], [98, 97, 100], [112, 117, 115, 104, 32, 97, 102], [111, 114, 32, 97, 44, 32, 0, 0], [114, 115, 116, 32, 51, 48], [108, 100, 32, 104, 108, 44, 32, 115, 112, 43, 0, 0], [108, 100, 32, 115, 112, 44, 32, 104, 108], [108, 100, 32, 97, 44, 32, 40, 0, 0, 0, 0, 41], [101, 105], [98, 97, 100], [98, 97, 100], [99, 112, 32, 97, 44, 32, 0, 0], [114, 115, 116, 32, 51, 56]]
def BT : List (List Nat) := [[114, 108, 99, 32, 98], [114, 108, 99, 32, 99], [114, 108, 99, 32, 100], [114, 108, 99, 32, 101], [114, 108, 99, 32, 104], [114, 108, 99, 32, 108], [114, 108, 99, 32, 40, 104, 108, 41], [114, 108, 99, 32, 97], [114, 114, 99, 32, 98], [114, 114, 99, 32, 99], [114, 114, 99, 32, 100], [114, 114, 99, 32, 101], [114, 114, 99, 32, 104], [114, 114, 99, 32, 108], [114, 114, 99, 32, 40, 104, 108, 41], [114, 114, 99, 32, 97], [114, 108, 32, 98], [114, 108, 32, 99], [114, 108, 32, 100], [114, 108, 32, 101], [114, 108, 32, 104], [114, 108, 32, 108], [114, 108, 32, 40, 104, 108, 41], [114, 108, 32, 97], [114, 114, 32, 98], [114, 114, 32, 99], [114, 114, 32, 100], [114, 114, 32, 101], [114, 114, 32, 104], [114, 114, 32, 108], [114, 114, 32, 40, 104, 108, 41], [114, 114, 32, 97], [115, 108, 97, 32, 98], [115, 108, 97, 32, 99], [115, 108, 97, 32, 100], [115, 108, 97, 32, 101], [115, 108, 97, 32, 104], [115, 108, 97, 32, 108], [115, 108, 97, 32, 40, 104, 108, 41], [115, 108, 97, 32, 97], [115, 114, 97, 32, 98], [115, 114, 97, 32, 99], [115, 114, 97, 32, 100], [115, 114, 97, 32, 101], [115, 114, 97, 32, 104], [115, 114, 97, 32, 108], [115, 114, 97, 32, 40, 104, 108, 41], [115, 114, 97, 32, 97], [115, 119, 97, 112, 32, 98], [115, 119, 97, 112, 32, 99], [115, 119, 97, 112, 32, 100], [115, 119, 97, 112, 32, 101], [115, 119, 97, 112, 32, 104], [115, 119, 97, 112, 32, 108], [115, 119, 97, 112, 32, 40, 104, 108, 41], [115, 119, 97, 112, 32, 97], [115, 114, 108, 32, 98], [115, 114, 108, 32, 99], [115, 114, 108, 32, 100], [115, 114, 108, 32, 101], [115, 114, 108, 32, 104], [115, 114, 108, 32, 108], [115, 114, 108, 32, 40, 104, 108, 41], [115, 114, 108, 32, 97], [98, 105, 116, 32, 48, 44, 32, 98], [98, 105, 116, 32, 48, 44, 32, 99], [98, 105, 116, 32, 48, 44, 32, 100], [98, 105, 116, 32, 48, 44, 32, 101], [98, 105, 116, 32, 48, 44, 32, 104], [98, 105, 116, 32, 48, 44, 32, 108], [98, 105, 116, 32, 48, 44, 32, 40, 104, 108, 41], [98, 105, 116, 32, 48, 44, 32, 97], [98, 105, 116, 32, 49, 44, 32, 98], [98, 105, 116, 32, 49, 44, 32, 99], [98, 105, 116, 32, 49, 44, 32, 100], [98, 105, 116, 32, 49, 44, 32, 101], [98, 105, 116, 32, 49, 44, 32, 104], [98, 105, 116, 32, 49, 44, 32, 108], [98, 105, 116, 32, 49, 44, 32, 40, 104, 108, 41], [98, 105, 116, 32, 49, 44, 32, 97], [98, 105, 116, 32, 50, 44, 32, 98], [98, 105, 116, 32, 50, 44, 32, 99], [98, 105, 116, 32, 50, 44, 32, 100], [98, 105, 116, 32, 50, 44, 32, 101], [98, 105, 116, 32, 50, 44, 32, 104], [98, 105, 116, 32, 50, 44, 32, 108], [98, 105, 116, 32, 50, 44, 32, 40, 104, 108, 41], [98, 105, 116, 32, 50, 44, 32, 97], [98, 105, 116, 32, 51, 44, 32, 98], [98, 105, 116, 32, 51, 44, 32, 99], [98, 105, 116, 32, 51, 44, 32, 100], [98, 105, 116, 32, 51, 44, 32, 101], [98, 105, 116, 32, 51, 44, 32, 104], [98, 105, 116, 32, 51, 44, 32, 108], [98, 105, 116, 32, 51, 44, 32, 40, 104, 108, 41], [98, 105, 116, 32, 51, 44, 32, 97], [98, 105, 116, 32, 52, 44, 32, 98], [98, 105, 116, 32, 52, 44, 32, 99], [98, 105, 116, 32, 52, 44, 32, 100], [98, 105, 116, 32, 52, 44, 32, 101], [98, 105, 116, 32, 52, 44, 32, 104], [98, 105, 116, 32, 52, 44, 32, 108], [98, 105, 116, 32, 52, 44, 32, 40, 104, 108, 41], [98, 105, 116, 32, 52, 44, 32, 97], [98, 105, 116, 32, 53, 44, 32, 98], [98, 105, 116, 32, 53, 44, 32, 99], [98, 105, 116, 32, 53, 44, 32, 100], [98, 105, 116, 32, 53, 44, 32, 101], [98, 105, 116, 32, 53, 44, 32, 104], [98, 105, 116, 32, 53, 44, 32, 108], [98, 105, 116, 32, 53, 44, 32, 40, 104, 108, 41], [98, 105, 116, 32, 53, 44, 32, 97], [98, 105, 116, 32, 54, 44, 32, 98], [98, 105, 116, 32, 54, 44, 32, 99], [98, 105, 116, 32, 54, 44, 32, 100], [98, 105, 116, 32, 54, 44, 32, 101], [98, 105, 116, 32, 54, 44, 32, 104], [98, 105, 116, 32, 54, 44, 32, 108], [98, 105, 116, 32, 54, 44, 32, 40, 104, 108, 41], [98, 105, 116, 32, 54, 44, 32, 97], [98, 105, 116, 32, 55, 44, 32, 98], [98, 105, 116, 32, 55, 44, 32, 99], [98, 105, 116, 32, 55, 44, 32, 100], [98, 105, 116, 32, 55, 44, 32, 101], [98, 105, 116, 32, 55, 44, 32, 104], [98, 105, 116, 32, 55, 44, 32, 108], [98, 105, 116, 32, 55, 44, 32, 40, 104, 108, 41], [98, 105, 116, 32, 55, 44, 32, 97], [114, 101, 115, 32, 48, 44, 32, 98], [114, 101, 115, 32, 48, 44, 32, 99], [114, 101, 115, 32, 48, 44, 32, 100], [114, 101, 115, 32, 48, 44, 32, 101], [114, 101, 115, 32, 48, 44, 32, 104], [114, 101, 115, 32, 48, 44, 32, 108], [114, 101, 115, 32, 48, 44, 32, 40, 104, 108, 41], [114, 101, 115, 32, 48, 44, 32, 97], [114, 101, 115, 32, 49, 44, 32, 98], [114, 101, 115, 32, 49, 44, 32, 99], [114, 101, 115, 32, 49, 44, 32, 100], [114, 101, 115, 32, 49, 44, 32, 101], [114, 101, 115, 32, 49, 44, 32, 104], [114, 101, 115, 32, 49, 44, 32, 108], [114, 101, 115, 32, 49, 44, 32, 40, 104, 108, 41], [114, 101, 115, 32, 49, 44, 32, 97], [114, 101, 115, 32, 50, 44, 32, 98], [114, 101, 115, 32, 50, 44, 32, 99], [114, 101, 115, 32, 50, 44, 32, 100], [114, 101, 115, 32, 50, 44, 32, 101], [114, 101, 115, 32, 50, 44, 32, 104], [114, 101, 115, 32, 50, 44, 32, 108], [114, 101, 115, 32, 50, 44, 32, 40, 104, 108, 41], [114, 101, 115, 32, 50, 44, 32, 97], [114, 101, 115, 32, 51, 44, 32, 98], [114, 101, 115, 32, 51, 44, 32, 99], [114, 101, 115, 32, 51, 44, 32, 100], [114, 101, 115, 32, 51, 44, 32, 101], [114, 101, 115, 32, 51, 44, 32, 104], [114, 101, 115, 32, 51, 44, 32, 108], [114, 101, 115, 32, 51, 44, 32, 40, 104, 108, 41], [114, 101, 115, 32, 51, 44, 32, 97], [114, 101, 115, 32, 52, 44, 32, 98], [114, 101, 115, 32, 52, 44, 32, 99], [114, 101, 115, 32, 52, 44, 32, 100], [114, 101, 115, 32, 52, 44, 32, 101], [114, 101, 115, 32, 52, 44, 32, 104], [114, 101, 115, 32, 52, 44, 32, 108], [114, 101, 115, 32, 52, 44, 32, 40, 104, 108, 41], [114, 101, 115, 32, 52, 44, 32, 97], [114, 101, 115, 32, 53, 44, 32, 98], [114, 101, 115, 32, 53, 44, 32, 99], [114, 101, 115, 32, 53, 44, 32, 100], [114, 101, 115, 32, 53, 44, 32, 101], [114, 101, 115, 32, 53, 44, 32, 104], [114, 101, 115, 32, 53, 44, 32, 108], [114, 101, 115, 32, 53, 44, 32, 40, 104, 108, 41], [114, 101, 115, 32, 53, 44, 32, 97], [114, 101, 115, 32, 54, 44, 32, 98], [114, 101, 115, 32, 54, 44, 32, 99], [114, 101, 115, 32, 54, 44, 32, 100], [114, 101, 115, 32, 54, 44, 32, 101], [114, 101, 115, 32, 54, 44, 32, 104], [114, 101, 115, 32, 54, 44, 32, 108], [114, 101, 115, 32, 54, 44, 32, 40, 104, 108, 41], [114, 101, 115, 32, 54, 44, 32, 97], [114, 101, 115, 32, 55, 44, 32, 98], [114, 101, 115, 32, 55, 44, 32, 99], [114, 101, 115, 32, 55, 44, 32, 100], [114, 101, 115, 32, 55, 44, 32, 101], [114, 101, 115, 32, 55, 44, 32, 104], [114, 101, 115, 32, 55, 44, 32, 108], [114, 101, 115, 32, 55, 44, 32, 40, 104, 108, 41], [114, 101, 115, 32, 55, 44, 32, 97], [115, 101, 116, 32, 48, 44, 32, 98], [115, 101, 116, 32, 48, 44, 32, 99], [115, 101, 116, 32, 48, 44, 32, 100], [115, 101, 116, 32, 48, 44, 32, 101], [115, 101, 116, 32, 48, 44, 32, 104], [115, 101, 116, 32, 48, 44, 32, 108], [115, 101, 116, 32, 48, 44, 32, 40, 104, 108, 41], [115, 101, 116, 32, 48, 44, 32, 97], [115, 101, 116, 32, 49, 44, 32, 98], [115, 101, 116, 32, 49, 44, 32, 99], [115, 101, 116, 32, 49, 44, 32, 100], [115, 101, 116, 32, 49, 44, 32, 101], [115, 101, 116, 32, 49, 44, 32, 104], [115, 101, 116, 32, 49, 44, 32, 108], [115, 101, 116, 32, 49, 44, 32, 40, 104, 108, 41], [115, 101, 116, 32, 49, 44, 32, 97], [115, 101, 116, 32, 50, 44, 32, 98], [115, 101, 116, 32, 50, 44, 32, 99], [115, 101, 116, 32, 50, 44, 32, 100], [115, 101, 116, 32, 50, 44, 32, 101], [115, 101, 116, 32, 50, 44, 32, 104], [115, 101, 116, 32, 50, 44, 32, 108], [115, 101, 116, 32, 50, 44, 32, 40, 104, 108, 41], [115, 101, 116, 32, 50, 44, 32, 97], [115, 101, 116, 32, 51, 44, 32, 98], [115, 101, 116, 32, 51, 44, 32, 99], [115, 101, 116, 32, 51, 44, 32, 100], [115, 101, 116, 32, 51, 44, 32, 101], [115, 101, 116, 32, 51, 44, 32, 104], [115, 101, 116, 32, 51, 44, 32, 108], [115, 101, 116, 32, 51, 44, 32, 40, 104, 108, 41], [115, 101, 116, 32, 51, 44, 32, 97], [115, 101, 116, 32, 52, 44, 32, 98], [115, 101, 116, 32, 52, 44, 32, 99], [115, 101, 116, 32, 52, 44, 32, 100], [115, 101, 116, 32, 52, 44, 32, 101], [115, 101, 116, 32, 52, 44, 32, 104], [115, 101, 116, 32, 52, 44, 32, 108], [115, 101, 116, 32, 52, 44, 32, 40, 104, 108, 41], [115, 101, 116, 32, 52, 44, 32, 97], [115, 101, 116, 32, 53, 44, 32, 98], [115, 101, 116, 32, 53, 44, 32, 99], [115, 101, 116, 32, 53, 44, 32, 100], [115, 101, 116, 32, 53, 44, 32, 101], [115, 101, 116, 32, 53, 44, 32, 104], [115, 101, 116, 32, 53, 44, 32, 108], [115, 101, 116, 32, 53, 44, 32, 40, 104, 108, 41], [115, 101, 116, 32, 53, 44, 32, 97], [115, 101, 116, 32, 54, 44, 32, 98], [115, 101, 116, 32, 54, 44, 32, 99], [115, 101, 116, 32, 54, 44, 32, 100], [115, 101, 116, 32, 54, 44, 32, 101], [115, 101, 116, 32, 54, 44, 32, 104], [115, 101, 116, 32, 54, 44, 32, 108], [115, 101, 116, 32, 54, 44, 32, 40, 104, 108, 41], [115, 101, 116, 32, 54, 44, 32, 97], [115, 101, 116, 32, 55, 44, 32, 98], [115, 101, 116, 32, 55, 44, 32, 99], [115, 101, 116, 32, 55, 44, 32, 100], [115, 101, 116, 32, 55, 44, 32, 101], [115, 101, 116, 32, 55, 44, 32, 104], [115, 101, 116, 32, 55, 44, 32, 108], [115, 101, 116, 32, 55, 44, 32, 40, 104, 108, 41], [115, 101, 116, 32, 55, 44, 32, 97]]
def aSr : kW.map aAw = PT := by kernel_rfl
def aR3 : (List.range 256).map (fun i => aAw (b1 i)) = BT := by kernel_rfl
def aNC (o : Opr) : Bool := aFg o && (if o.size = 2 then Nat.beq (lI o).2.1 2 else if o.size = 3 then Nat.beq (lI o).2.1 4 else true) && (if o.size = 1 then decide (o.kind = 28 ∨ o.n = 0) else decide (¬ o.kind = 28))
def aP9 : kW.all aNC = true := by kernel_rfl
def aO2 : (List.range 256).all (fun i => aFg (b1 i) && Nat.beq (lI (b1 i)).2.1 0) = true := by kernel_rfl
def aGx {m : Nat} {o : Opr} (h : kW[m]? = some o) : aFg o = true ∧ (o.size = 2 → (lI o).2.1 = 2) ∧ (o.size = 3 → (lI o).2.1 = 4) ∧ (o.size = 1 → o.kind = 28 ∨ o.n = 0) ∧ (o.kind = 28 → o.size = 1) := by
 have := List.all_eq_true.1 aP9 o (ay h)
 simp only [aNC, al] at this
 refine ⟨this.1.1, fun h2 => ?_, fun h3 => ?_, fun h1 => ?_, fun h28 => ?_⟩
 ·have h4 := this.1.2
  rw [if_pos h2] at h4
  exact bi h4
 ·have h4 := this.1.2
  rw [if_neg o_m, if_pos h3] at h4
  exact bi h4
 ·have h4 := this.2
  rw [if_pos h1] at h4
  exact c7 h4
 ·have h4 := this.2
  by_cases h1 : o.size = 1
  ·exact h1
  ·rw [if_neg h1] at h4
   exact absurd h28 (c7 h4)
def aPQ {m : Nat} {o : Opr} (h : kW[m]? = some o) (b w : Int) : Mat (aAw o) (txt (rL o b w)) := by
 have hk := aJJ h
 have hs := aLd b w (aGx h).2.2.2.2
 have hp := (aGx h).1
 simp only [aFg, al] at hp
 rw [aEE (o := rL o b w) ⟨hk.1, hk.2.1⟩, hs]
 exact sC (sC (qU hp.1) (aCt _ _)) (qU hp.2)
def aOp {b : Nat} (h : b < 256) : Mat (aAw (b1 b)) (txt (rK (b : Nat))) := by
 have hp := List.all_eq_true.1 aO2 b (List.mem_range.2 h)
 simp only [aFg, al] at hp
 rw [← aFR h]
 rw [aEE (o := b1 b) (by rw [aFR h]; exact (aFf ⟨y_B, y_B⟩).kind)]
 exact sC (sC (qU hp.1.1) (aCt _ _)) (qU hp.1.2)
def aQk {m : Nat} {o : Opr} (h : kW[m]? = some o) : PT[m]? = some (aAw o) := by rw [← aSr, bz, h]; rfl
def aQE {b : Nat} (h : b < 256) : BT[b]? = some (aAw (b1 b)) := by rw [← aR3, bz, ei h]; rfl
end Go.Proofs.YtdbgagkcgdlnnaaGreat
namespace Go.Proofs.YtdbgagkcgdlnnaaGreat
open Go Go.VV
def aAj : ∀ {p : AE} {l : List UInt8}, Mat p l → p.length = l.length
 | [], [], _ => rfl
 | 0 :: _, _ :: _, h => by rw [Lc_, Lc_, aAj h.2]
 | (_ + 1) :: _, _ :: _, h => by rw [Lc_, Lc_, aAj h.2]
 | [], _ :: _, h => h.elim
 | c :: _, [], h => by cases c <;> exact h.elim
def fetS (s : Nat × AB) (e : Ac) : Nat × AB := if e.kind = 3 ∧ s.1 < 3 then (s.1 + 1, s.2.set s.1 e.val) else s
def fet (l : List Ac) : Nat × AB := l.foldl fetS (0, [0, 0, 0])
def aLm (l : List Ac) (e : Ac) : fet (l ++ [e]) = fetS (fet l) e := by simp [fet]
def aPT {s : Nat × AB} (h : s.1 ≤ 3 ∧ s.2.length = 3) (e : Ac) : (fetS s e).1 ≤ 3 ∧ (fetS s e).2.length = 3 := by
 unfold fetS
 split
 ·exact ⟨y_D, by dsimp only; rw [List.length_set]; exact h.2⟩
 ·exact h
def aGA : ∀ (l : List Ac) {s : Nat × AB}, s.1 ≤ 3 ∧ s.2.length = 3 → (l.foldl fetS s).1 ≤ 3 ∧ (l.foldl fetS s).2.length = 3
 | [], _, h => h
 | e :: l, _, h => aGA l (aPT h e)
def aQD (l : List Ac) : (fet l).1 ≤ 3 ∧ (fet l).2.length = 3 := aGA l ⟨aj _, rfl⟩
def aKb {s : Nat × AB} : ∀ {l : List Ac}, (∀ e ∈ l, e.kind ≠ 3) → l.foldl fetS s = s
 | [], _ => rfl
 | e :: l, h => by
  rw [f6, show fetS s e = s by unfold fetS; rw [if_neg (fun hk => h e (.head _) hk.1)]]
  exact aKb fun x hx => h x (.tail _ hx)
def aLy {R m : Mm} {D : Prop} {plan : List Chg} (hp : ∀ c ∈ plan, mX c) (h : jK R D m) :
  ((stepM plan m).1.what = 1 ∧ ∃ a b c : Int, (0 ≤ a ∧ a < 256) ∧ (0 ≤ b ∧ b < 256) ∧ (0 ≤ c ∧ c < 256) ∧ fet (stepM plan m).2.acc = ((stepM plan m).1.op.size.toNat, [a, b, c]) ∧ 0 ≤ (stepM plan m).1.op.size ∧ (stepM plan m).1.op = dcd a b c) ∨ (stepM plan m).1.what ≠ 1 := by
 rcases (aIY hp h).told with ⟨h1, v, u, t, k, l, hv, hu, ht, hk1, hk3, ho, hs, ha, hl⟩ | ⟨h1, _⟩
 ·refine .inl ⟨h1, v, if 2 ≤ k then u else 0, if 3 ≤ k then t else 0, hv, by split <;> omega, by split <;> omega, ?_, by rw [hs]; omega, ho⟩
  have ha' : (stepM plan m).2.acc = ([⟨3, m.cpu.r.pc, v⟩, ⟨3, bJ m.cpu.r.pc, u⟩, ⟨3, bJ (bJ m.cpu.r.pc), t⟩] : List Ac).take k ++ l := ha
  rw [ha', hs]
  unfold fet
  rw [fm, aKb hl]
  rcases (show k = 1 ∨ k = 2 ∨ k = 3 by omega) with rfl | rfl | rfl <;> rfl
 ·exact .inr h1
def aMM (p : AB) : errH (madeI 0 0 0 p) = 0 := by
 have hz : (madeZ 0 0 0 p).length = romS 0 := yN _ _ _ _
 have hl : (madeI 0 0 0 p).length = romS 0 := tY _ _ _ _
 have hr : romS 0 = 32768 := rfl
 have hP : (madeP (List.replicate (romS 0) 0) p (min p.length 15000)).length = romS 0 := by rw [tN, ca]
 have e333 : (madeI 0 0 0 p).getD 333 0 = chkH (madeZ 0 0 0 p) 25 := by unfold madeI; simp [Gd_, d6, hz, show 333 < romS 0 by omega]
 have ec : ∀ n, n ≤ 25 → chkH (madeI 0 0 0 p) n = chkH (madeZ 0 0 0 p) n := by
  intro n
  induction n with
  | zero => intro _; rfl
  | succ n ih =>
   intro h
   unfold chkH
   rw [ih o_m]
   have : (madeI 0 0 0 p).getD (308 + n) 0 = (madeZ 0 0 0 p).getD (308 + n) 0 := by unfold madeI; simp [Gd_, d6, show ¬ 333 = 308 + n by omega]
   rw [this]
 have e327 : (madeI 0 0 0 p).getD 327 0 = 0 := by unfold madeI madeZ; simp [Gd_, d6, hP, show 327 < romS 0 by omega]
 have e328 : (madeI 0 0 0 p).getD 328 0 = 0 := by unfold madeI madeZ; simp [Gd_, d6, hP, show 328 < romS 0 by omega]
 have e329 : (madeI 0 0 0 p).getD 329 0 = 0 := by unfold madeI madeZ; simp [Gd_, d6, hP, show 329 < romS 0 by omega]
 unfold errH
 rw [if_neg o_m, if_neg (by rw [e333, ec 25 y_b]; exact fun h => h rfl), e327]
 show (if 8 < (madeI 0 0 0 p).getD 328 0 ∨ 6 ≤ (madeI 0 0 0 p).getD 329 0 then (7 : Int) else if ((madeI 0 0 0 p).length : Int) ≠ 32768 * 2 ^ ((madeI 0 0 0 p).getD 328 0).toNat then 6 else 0) = 0
 rw [e328, e329, if_neg y_b, if_neg (by rw [hl, hr]; decide)]
def aM7 : (PT.all (fun p => Nat.ble 2 p.length) && BT.all (fun p => Nat.ble 2 p.length)) = true := by kernel_rfl
def aNb {a b c : Int} (ha : 0 ≤ a ∧ a < 256) (hb : 0 ≤ b ∧ b < 256) : 2 ≤ (txt (dcd a b c)).length := by
 have hs := aM7
 simp only [al] at hs
 by_cases h1 : a = 203
 ·rw [pS h1]
  obtain ⟨k, rfl⟩ : ∃ k : Nat, b = k := ⟨b.toNat, y_B⟩
  rw [← aAj (aOp (b := k) o_m)]
  exact ag (List.all_eq_true.1 hs.2 _ (ay (aQE (b := k) o_m)))
 ·obtain ⟨m, o, hm, _, ho⟩ := qB ha.1 ha.2
  rw [jQ hm h1 ho, ← aAj (aPQ ho b (b + 256 * c))]
  exact ag (List.all_eq_true.1 hs.1 _ (ay (aQk ho)))
end Go.Proofs.YtdbgagkcgdlnnaaGreat
namespace Go.Proofs.YtdbgagkcgdlnnaaGreat.Hs
open Go Go.VV Go.Proofs Go.Proofs.Tryz
def new_fn (n : Int) (w : AI) :
  aC prog 19 [.int .i64 n] w [] (fun v H => ∃ b, v = P_ b ∧ HistH b (max 1 (min n 32)).toNat 0 [] (List.replicate 32 r0) H) := by
 refine dR_ func19 ?_
 refine A_7 ?_
 refine RY (kL rfl rfl) rfl (RY (kN rfl rfl) rfl (RY (eB (z := hC (.slice none 0 0) (List.replicate 32 r0) 0 0) (l := hC (.slice none 0 0) (List.replicate 32 r0) (max 1 (min n 32)) 0) rfl y_i rfl y_i) rfl (RX (dC rfl rfl) rfl ?_)))
 rintro _ _ ⟨b7, rfl, rfl⟩
 refine A_3 ?_
 exact EV rfl sR_ ⟨_, rfl, _, [], by rw [cu o_m]; rfl, .nil, y_eu⟩
def tM (b c j : Nat) (cs : List Cll) (sp : AA) (hlen : cs.length < 1000000000) (hc : cs.length ≤ c) (hsz : (aE cC cs ++ sp).length = c * 5) (h2 : 1 ≤ j) (hj : j ≤ cs.length) (w : AI) (hb : w.heap[b]? = some (blk (aE cC cs ++ sp) 170)) :
  aC prog 108 [.slice (Q_ b) cs.length c, .int .i64 0, .int .i64 j] w [b] (fun v H => v = .slice (Q_ b) (cs.drop j).length c ∧ ∃ sp', (aE cC (cs.drop j) ++ sp').length = c * 5 ∧ H = [(b, blk (aE cC (cs.drop j) ++ sp') 170)]) := by
 refine mH func108 rfl rfl rfl (St.lent1 hb) ?_
 refine A_10 ?_
 refine RY l_n rfl (RY (aBv (s := 5) 0 j cs.length rfl rfl rfl rfl rfl rfl rfl rfl o_m hj hc) rfl (A_6 ?_))
 refine dT false rfl rfl rfl y_bS ?_
 refine A_6 ?_
 refine RY l_n rfl (A_3 ?_)
 refine DR [] (pln [0, 2, 4, 6, 8, 10, 13, 14]) ?_
 refine A_2 ?_
 refine DW (v := (.slice (Q_ b) 0 c)) rfl (iV (s := 5) 0 0 rfl rfl rfl rfl rfl rfl o_m o_m) rfl (aRG b 0 5 0 c) (A_2 ?_)
 refine DY rfl (iV (s := 5) j cs.length rfl rfl rfl rfl rfl rfl hj hc) rfl (DZ rfl (aDg (n := 0) (m := cs.length - j) (T := 170) (s := 5) (by_ := 24) (ys := aE cC (cs.drop j)) 0 rfl rfl rfl rfl rfl (fun w hw => .row _ _ _ _ _ (by rw [bL lB, Ld_]) (aKj lB (aA (.head _) w hw) hj hc)) (tH aKp _) o_m (tL lB cs sp j)) rfl n_h (A_6 ?_))
 refine RY l_n rfl (A_1 ?_)
 refine RW (v := (.slice (some ⟨b, (cs.length - j) * 5, none⟩) j (c - (cs.length - j)))) (iV (s := 5) (cs.length - j) cs.length rfl rfl rfl rfl y_v rfl o_m hc) rfl (aO3 o_m o_m) (RZ (aGl (s := 5) (z := [.int .i64 0, .int .i64 0, .int .u16 0, .int .u16 0, .int .u16 0]) 0 rfl rfl rfl rfl rfl rfl rfl o_m (by rw [kS (tL lB cs sp j), hsz]; simp only [Lc_, ar]; omega)) rfl (A_7 ?_))
 obtain ⟨sp', hsp⟩ := aL2 lB cs sp (jT (j * 5) [.int .i64 0, .int .i64 0, .int .u16 0, .int .u16 0, .int .u16 0]) hj
 refine iN (fun _ _ => sN rfl) sR_ ⟨by rw [Ld_, az], sp', ?_, by rw [← hsp]; rfl⟩
 rw [← hsp, kS (by rw [kS (tL lB cs sp j), hsz, aBb]; omega), kS (tL lB cs sp j), hsz]
def aEr (b keep noted : Nat) (cs : List Cll) (ring : List Rcd) (hcl : cs.length ≤ 256) (G : aB) (w : AI) (hL : HistH b keep noted cs ring G) (hst : St w (G.map (·.1)) G w) (x : Cll) :
  aC prog 88 [P_ b, .agg (cC x).toArray] w (G.map (·.1)) (fun v H => v = .tuple #[] ∧ HistH b keep noted (pX cs x) ring H) := by
 obtain ⟨v, GV, rfl, hV, hr⟩ := hL
 obtain ⟨a, c, rfl⟩ := hV.slice
 refine dO_ func88 hst ?_
 refine A_2 ?_
 refine RX (dC rfl rfl) rfl ?_
 rintro _ _ ⟨b3, rfl, rfl⟩
 refine A_2 ?_
 refine DR [5, 6] (pln [0, 2, 4, 6, 8, 10, 13, 15, 16, 18, 21]) ?_
 refine A_5 ?_
 refine bU rfl rfl rfl rfl y_bl rfl rfl ?_
 refine DX rfl (bX rfl rfl rfl rfl rfl rfl) rfl y_o ?_
 rintro _ _ ⟨b11, rfl, rfl⟩
 refine gL (H' := [(b11, blk (cC x) 170), (b3, blk (cC x) 170), (b, _)] ++ GV) (fun _ h => h) ?_
 refine DX rfl (iS (A := [(b11, blk (cC x) 170), (b3, blk (cC x) 170), (b, _)]) (G := GV) (n := cs.length) (m := 1) (T := 170) (s := 5) (by_ := 24) (ys := cC x) rfl rfl rfl rfl hV (fun w hw => .row _ _ _ _ _ rfl (aA (.head _) w hw)) rfl o_m o_m) rfl n_h ?_
 rintro v12 _ ⟨G12, hV12, hn12, rfl⟩
 refine gL (H' := (b, _) :: G12) (fun _ h => St.fl [G12, [_], [_], [_]] [3, 0] rfl h) ?_
 rw [← jM] at hV12
 have hl12 : cs.length + 1 = (cs ++ [x]).length := by simp
 rw [hl12] at hV12
 obtain ⟨bc, cc, sc, rfl, rfl, hz, hlc, hxc⟩ := hV12.full y_v
 refine A_2 ?_
 refine DZ rfl (cQ 0 rfl rfl rfl rfl rfl rfl y_c3) rfl n_h ?_
 simp only [ap]
 rw [vB]
 refine A_7 ?_
 refine RY l_n rfl (RW (v := (.int .i64 (((cs ++ [x]).length : Int) - 256))) rfl rfl (cA_ _ (aI o_m o_m)) (A_7 ?_))
 refine KC (fun h1 h1n => ?_) (fun h1 h1n => ?_)
 ·refine A_6 ?_
  refine RW (v := (.int .i64 ((1 : Nat) : Int))) rfl rfl (cA_ _ (by rw [La_, aq] at *; (try simp only [decide_eq_true_eq, decide_eq_false_iff_not, beq_iff_eq, beq_eq_false_iff_ne, bne_iff_ne, bne_eq_false_iff_eq, ne_eq] at *); omega)) (cE (H' := [(bc, _)] ++ [(b, _)]) (fun _ h => St.fl [[_], [_]] [1, 0] rfl h) ?_)
  refine RX (dY (A := [(bc, _)]) (G := [(b, _)]) [bc] K_ rfl y_v (fun w hw => tM bc cc 1 (cs ++ [x]) sc o_m hlc hz o_m y_v w (hw.holds _ (.head _)))) rfl ?_
  rintro _ _ ⟨_, ⟨rfl, sp9, hz9, rfl⟩, rfl⟩
  refine A_2 ?_
  refine RZ (cQ 1 rfl rfl rfl rfl rfl rfl y_c3) rfl ?_
  try simp only [ap, cn]
  rw [vB]
  refine A_1 ?_
  exact eQ (fun _ _ => eL) (fun _ h => St.fl [[_], [_]] [1, 0] rfl h) ⟨rfl, _, [_], rfl, by rw [aPL o_m y_a]; exact Vec.all_ lB hz9 (by rw [Ld_]; omega) hxc, hr⟩
 refine A_1 ?_
 exact EN sR_ ⟨rfl, _, [_], rfl, by rw [aQM y_a]; exact Vec.all_ lB hz hlc hxc, hr⟩
def aMm (b keep noted : Nat) (cs : List Cll) (ring : List Rcd) (hcl : cs.length ≤ 256) (G : aB) (w : AI) (hL : HistH b keep noted cs ring G) (hst : St w (G.map (·.1)) G w) (s : Stp) (hs : StpOk s) :
  aC prog 89 [P_ b, .int .i64 s.bank, .agg (cD s).toArray, .int .u16 s.to] w (G.map (·.1)) (fun v H => v = .tuple #[] ∧ HistH b keep noted (hU cs s) ring H) := by
 obtain ⟨v, GV, rfl, hV, hr⟩ := hL
 obtain ⟨a, c, rfl⟩ := hV.slice
 refine dO_ func89 hst ?_
 refine A_2 ?_
 refine RX (dC rfl rfl) rfl ?_
 rintro _ _ ⟨b6, rfl, rfl⟩
 refine A_13 ?_
 refine RW (v := (.int .u16 (lQ s))) rfl rfl (cA_ _ (aE2 hs)) (RS ?_)
 refine RX (bY rfl) rfl ?_
 rintro _ _ ⟨b8, rfl, rfl⟩
 refine RZ s_t rfl (A_23 ?_)
 refine KC (fun h1 h1n => ?_) (fun h1 h1n => ?_)
 ·refine A_5 ?_
  refine RZ s_t rfl (A_6 ?_)
  refine KC (fun h2 h2n => ?_) (fun h2 h2n => ?_)
  ·refine A_2 ?_
   refine RZ (aL rfl rfl rfl y_h) rfl (cE (fun _ h => h.sub (.cons _ (.cons _ sR_))) ?_)
   refine RX (dB K_ rfl (fun w hw => aEr b keep noted cs ring hcl _ w ⟨_, _, rfl, hV, hr⟩ (St.lentA hw) ⟨1, s.bank, s.at_, s.to, lQ s⟩)) rfl ?_
   rintro _ H9 ⟨rfl, hH9⟩
   refine A_2 ?_
   exact EN sR_ ⟨rfl, by rw [aPq y_a y_a]; exact hH9⟩
  refine A_2 ?_
  exact eQ (fun _ _ => eL) (fun _ h => h.sub (.cons _ (.cons _ sR_))) ⟨rfl, by rw [aOn y_a y_a]; exact ⟨_, _, rfl, hV, hr⟩⟩
 refine A_7 ?_
 refine KC (fun h3 h3n => ?_) (fun h3 h3n => ?_)
 ·refine A_5 ?_
  refine RZ s_t rfl (A_3 ?_)
  refine RZ (aL rfl rfl rfl y_h) rfl (cE (fun _ h => h.sub (.cons _ (.cons _ sR_))) ?_)
  refine RX (dB K_ rfl (fun w hw => aEr b keep noted cs ring hcl _ w ⟨_, _, rfl, hV, hr⟩ (St.lentA hw) ⟨2, s.bank, s.at_, s.to, lQ s⟩)) rfl ?_
  rintro _ H9 ⟨rfl, hH9⟩
  refine A_2 ?_
  exact EN sR_ ⟨rfl, by rw [aQX y_a]; exact hH9⟩
 refine A_7 ?_
 refine KC (fun h4 h4n => ?_) (fun h4 h4n => ?_)
 ·refine A_7 ?_
  refine KC (fun h5 h5n => ?_) (fun h5 h5n => ?_)
  ·refine A_1 ?_
   exact eQ (fun _ _ => eL) (fun _ h => h.sub (.cons _ (.cons _ sR_))) ⟨rfl, by rw [aOq y_a y_c0]; exact ⟨_, _, rfl, hV, hr⟩⟩
  refine A_8 ?_
  refine RY l_n rfl (A_7 ?_)
  refine KC (fun h6 h6n => ?_) (fun h6 h6n => ?_)
  ·obtain ⟨bv, cv, sv, hv9, rfl, hzv, hlv, hxv⟩ := hV.full y_a
   cases hv9
   refine A_7 ?_
   refine RW (v := (.int .i64 ((cs.length - 1 : Nat) : Int))) rfl rfl (cA_ _ y_bJ) (RW (v := (.slice (Q_ bv) cs.dropLast.length c)) (iV (s := 5) 0 (cs.length - 1) rfl rfl rfl rfl rfl rfl o_m o_m) rfl y_du (A_2 ?_))
   refine RZ (cQ 2 rfl rfl rfl rfl rfl rfl y_c3) rfl ?_
   simp only [ap, cn]
   rw [vB]
   refine A_2 ?_
   exact eQ (fun _ _ => eL) (fun _ h => h.sub (.cons _ (.cons _ sR_))) ⟨rfl, by rw [aGk y_a y_c0]; exact ⟨_, [_], rfl, aGy y_a hzv hlv hxv, hr⟩⟩
  refine A_2 ?_
  exact eQ (fun _ _ => eL) (fun _ h => h.sub (.cons _ (.cons _ sR_))) ⟨rfl, by rw [aGk y_a y_c0, aFc y_a]; exact ⟨_, _, rfl, hV, hr⟩⟩
 refine A_6 ?_
 refine KC (fun h7 h7n => ?_) (fun h7 h7n => ?_)
 ·refine A_8 ?_
  refine RY l_n rfl (A_7 ?_)
  refine KC (fun h8 h8n => ?_) (fun h8 h8n => ?_)
  ·obtain ⟨bv, cv, sv, hv9, rfl, hzv, hlv, hxv⟩ := hV.full y_a
   cases hv9
   refine A_7 ?_
   refine RW (v := (.int .i64 ((cs.length - 1 : Nat) : Int))) rfl rfl (cA_ _ y_bJ) (RW (v := (.slice (Q_ bv) cs.dropLast.length c)) (iV (s := 5) 0 (cs.length - 1) rfl rfl rfl rfl rfl rfl o_m o_m) rfl y_du (A_2 ?_))
   refine RZ (cQ 2 rfl rfl rfl rfl rfl rfl y_c3) rfl ?_
   simp only [ap, cn]
   rw [vB]
   refine A_2 ?_
   exact eQ (fun _ _ => eL) (fun _ h => h.sub (.cons _ (.cons _ sR_))) ⟨rfl, by rw [aJ9 y_a]; exact ⟨_, [_], rfl, aGy y_a hzv hlv hxv, hr⟩⟩
  refine A_2 ?_
  exact eQ (fun _ _ => eL) (fun _ h => h.sub (.cons _ (.cons _ sR_))) ⟨rfl, by rw [aJ9 y_a, aFc y_a]; exact ⟨_, _, rfl, hV, hr⟩⟩
 refine A_2 ?_
 exact eQ (fun _ _ => eL) (fun _ h => h.sub (.cons _ (.cons _ sR_))) ⟨rfl, by rw [aRn y_a y_a y_a y_a]; exact ⟨_, _, rfl, hV, hr⟩⟩
def note_fn (b keep noted : Nat) (cs : List Cll) (ring : List Rcd) (hk1 : 1 ≤ keep) (hk2 : keep ≤ 32) (hnt : noted < 1000000000) (hcl : cs.length ≤ 256) (G : aB) (w : AI) (hL : HistH b keep noted cs ring G) (hst : St w (G.map (·.1)) G w) (s : Stp) (hs : StpOk s) :
  aC prog 52 [P_ b, .int .u64 s.n, .int .i64 s.bank, .agg (cD s).toArray, .int .u16 s.to] w (G.map (·.1)) (fun v H => v = .tuple #[] ∧ HistH b keep (noted + 1) (nB cs s) (ring.set (noted % keep) (recOf s)) H) := by
 obtain ⟨v, GV, rfl, hV, hr⟩ := hL
 obtain ⟨a, c, rfl⟩ := hV.slice
 have hm32 : noted % keep < 32 := de (gv _ o_m) hk2
 have hr2 : (ring.set (noted % keep) (recOf s)).length = 32 := by rw [List.length_set]; exact hr
 refine dO_ func52 hst ?_
 refine A_2 ?_
 refine RX (dC rfl rfl) rfl ?_
 rintro _ _ ⟨b8, rfl, rfl⟩
 refine A_10 ?_
 refine DR [5, 6, 7, 8, 10, 11, 12, 13, 14, 15, 16, 17, 18, 19, 20] (pln [0, 2, 4, 6, 8, 10, 12, 14, 16, 18, 20, 22, 24, 26, 28, 30, 32, 34, 36, 38, 40, 42, 45]) ?_
 refine A_4 ?_
 refine DL rfl rfl rfl (cZ m_m (aBd hr)) rfl (A_3 ?_)
 refine DL rfl rfl rfl (cZ m_m (aG3 hr)) rfl (DW (v := (.int .i64 ((noted % keep : Nat) : Int))) rfl (kE rfl rfl o_m) rfl (cA_ _ aCk) (A_7 ?_))
 refine bU rfl rfl rfl rfl y_bl rfl rfl ?_
 refine DY rfl (eB rfl rfl rfl rfl) rfl (A_2 ?_)
 refine DY rfl (bT (s := 9) (noted % keep) rfl rfl rfl rfl hm32) rfl (DZ rfl (cQ (vs := cR (recOf s)) 1 rfl rfl rfl rfl rfl rfl (by rw [hC_len hr, cR_len]; omega)) rfl n_h ?_)
 simp only [ap, cn]
 rw [show 0 + 1 + noted % keep * 9 = 1 + noted % keep * 9 by omega, aOT hr hm32]
 refine A_6 ?_
 refine RZ (aH rfl rfl (aT m_m (aBd hr2))) rfl (RW (v := (.int .i64 ((noted + 1 : Nat) : Int))) rfl rfl (cA_ _ (bB o_m)) (A_2 ?_))
 refine RZ (cQ 1 rfl rfl rfl rfl rfl rfl (by rw [hC_len hr2]; simp)) rfl ?_
 simp only [ap, cn]
 rw [show 0 + 290 = 290 from rfl, aOm hr2]
 refine A_12 ?_
 refine KC (fun h1 h1n => ?_) (fun h1 h1n => ?_)
 ·refine A_8 ?_
  refine RS ?_
  refine cE (fun _ h => h.sub (.cons _ sR_)) ?_
  refine RX (dB K_ rfl (fun w hw => aEr b keep (noted + 1) cs (ring.set (noted % keep) (recOf s)) hcl _ w ⟨_, _, rfl, hV, hr2⟩ (St.lentA hw) ⟨3, s.bank, s.at_, s.to, s.at_⟩)) rfl ?_
  rintro _ H9 ⟨rfl, hH9⟩
  refine A_1 ?_
  exact EN sR_ ⟨rfl, by rw [aP7 y_a]; exact hH9⟩
 refine A_5 ?_
 refine KC (fun h2 h2n => ?_) (fun h2 h2n => ?_)
 ·refine A_3 ?_
  refine RZ (aL rfl rfl rfl (by first | exact aA m_m | exact gH m_m _ 9 rfl)) rfl (A_1 ?_)
  refine cE (fun _ h => h.sub (.cons _ sR_)) ?_
  refine RX (dB K_ rfl (fun w hw => aMm b keep (noted + 1) cs (ring.set (noted % keep) (recOf s)) hcl _ w ⟨_, _, rfl, hV, hr2⟩ (St.lentA hw) s hs)) rfl ?_
  rintro _ H9 ⟨rfl, hH9⟩
  refine A_1 ?_
  exact EN sR_ ⟨rfl, by rw [aPw y_a]; exact hH9⟩
 refine A_1 ?_
 exact eQ (fun _ _ => eL) (fun _ h => h.sub (.cons _ sR_)) ⟨rfl, by rw [aNX y_a y_a]; exact ⟨_, _, rfl, hV, hr2⟩⟩
def wC (a : AC) (c : Nat) (cs : List Cll) (hlen : cs.length < 1000000000) (w : AI) (hS : SlW w cC a cs) :
  aC prog 54 [.slice a cs.length c] w [] (fun v H => Vec 170 5 v cs.length (aE cC cs) H) := by
 refine dR_ func54 ?_
 refine A_6 ?_
 rcases hS with ⟨rfl, rfl⟩ | ⟨bs, os, rfl, hr⟩
 ·refine A_10 ?_
  exact E0 rfl .nil
 refine A_8 ?_
 refine RX (aKZ (el := 170) (n := 5) rfl) rfl ?_
 rintro _ _ ⟨b5, rfl, rfl⟩
 refine A_1 ?_
 refine RX (iS (A := []) (G := [(b5, blk [] 170)]) (v := .slice (Q_ b5) 0 0) (n := 0) (xs := []) (m := cs.length) (T := 170) (s := 5) (by_ := 24) (ys := aE cC cs) rfl rfl rfl rfl (.row b5 0 0 [] [] rfl rfl y_b (ax 0)) (fun w hw => .row _ _ _ _ _ (bL lB cs) (aR hr y_v w hw)) (tH aKp _) o_m o_m) rfl ?_
 rintro v7 _ ⟨G7, hV7, hnil7, rfl⟩
 refine uA (v := v7) rfl rfl rfl ?_
 refine A_2 ?_
 exact iN (fun _ _ => xR rfl) (cq _ _) (hV7.as (az _) (bw _))
def aMJ {l : List Stp} {k j : Nat} {s : Stp} (h : (lastL l k)[j]? = some s) : l[l.length - k + j]? = some s := by
 unfold lastL at h; rw [db] at h; exact h
def records_fn (b keep : Nat) (cs : List Cll) (ring : List Rcd) (l : List Stp) (hk1 : 1 ≤ keep) (hk2 : keep ≤ 32) (hl : l.length < 1000000000) (hR : RingOk keep ring l) (w : AI) (hW : HistW w b keep l.length cs ring) :
  aC prog 12 [P_ b] w [] (fun v H => Vec 56 9 v (lastL l keep).length (aE cR ((lastL l keep).map recOf)) H) := by
 obtain ⟨⟨a, c, q0, qc, qz, hS, hA⟩, q1, q2, q3, q4⟩ := hW
 have hll := lastL_len l keep
 refine dR_ func12 ?_
 refine A_18 ?_
 refine DR [4, 5, 6, 7] (pln [0, 2, 4, 6, 8, 10, 12, 14, 16, 18, 20]) ?_
 refine A_3 ?_
 refine DL rfl rfl rfl (fG q2 y_v) rfl (A_3 ?_)
 refine DL rfl rfl rfl (fG q1 y_v) rfl (DW (v := (.int .i64 ((l.length : Int) - keep))) rfl rfl rfl (cA_ _ (aI o_m o_m)) (DW (v := (.int .i64 ((l.length - keep + 0 : Nat) : Int))) rfl (kN rfl rfl) rfl (cA_ _ o_m) (A_3 ?_)))
 refine bG (σ := Nat × AH × aB) [3, 4, 17, 18, 19, 20, 21, 22, 23, 24, 25, 26, 27, 28, 29, 30, 31, 32, 33, 34, 35, 36, 37, 38] (fun s => [(3, s.2.1), (4, .int .i64 ((l.length - keep + s.1 : Nat) : Int))]) (fun s => s.2.2 ++ []) (fun s => s.1 ≤ (lastL l keep).length ∧ Vec 56 9 s.2.1 s.1 (aE cR (((lastL l keep).map recOf).take s.1)) s.2.2) (fun s => (lastL l keep).length - s.1) (0, .slice none 0 0, []) ?_ ?_ ?_ ?_
 ·exact ⟨aj _, .nil⟩
 ·exact .cons rfl (.cons rfl .nil)
 ·exact fun _ h => h
 rintro ⟨j, v, G⟩ y5 ⟨hj, hV⟩
 dsimp only at hj hV ⊢
 obtain ⟨a3, c3, rfl⟩ := hV.slice
 refine A_7 ?_
 refine RZ (aH rfl rfl (bF q2 y_v)) rfl (A_2 ?_)
 refine KC (fun h1 h1n => ?_) (fun h1 h1n => ?_)
 ·refine A_3 ?_
  obtain ⟨s, hg⟩ : ∃ s, (lastL l keep)[j]? = some s := ⟨_, tE (by rw [hll]; (try simp only [decide_eq_true_eq, decide_eq_false_iff_not, beq_iff_eq, beq_eq_false_iff_ne, bne_iff_ne, bne_eq_false_iff_eq, ne_eq] at *); omega)⟩
  have hg2 := aMJ hg
  obtain ⟨hi9, hg3⟩ := List.getElem?_eq_some_iff.1 hg2
  have hrg := hR.2 _ hi9 o_m
  rw [hg3] at hrg
  have hm9 : (l.length - keep + j) % keep < 32 := de (gv _ o_m) hk2
  refine eP (L' := G) (fun _ h => h.as y_v) ?_
  refine DR [8, 9] (pln [0, 2, 4, 6, 8, 10, 12, 14, 16, 18, 20, 22, 25, 27, 28]) ?_
  refine A_6 ?_
  refine DL rfl rfl rfl (fG q1 y_v) rfl (DW (v := (.int .i64 (((l.length - keep + j) % keep : Nat) : Int))) rfl (kE rfl rfl o_m) rfl (cA_ _ aCk) (A_2 ?_))
  refine DY rfl (bT (s := 9) ((l.length - keep + j) % keep) rfl rfl rfl rfl hm9) rfl (bU rfl rfl rfl rfl (aA2 (q4 _ _ hrg) y_v) rfl rfl ?_)
  refine DX rfl (bX (z := cR r0) (l := cR (recOf s)) (ps := [(0, .agg (cR (recOf s)).toArray)]) rfl rfl rfl rfl rfl y_i) rfl n_h ?_
  rintro _ _ ⟨b37, rfl, rfl⟩
  refine DX rfl (iS (A := [(b37, _)]) (G := G) (v := (.slice a3 j c3)) (n := j) (xs := (aE cR (((lastL l keep).map recOf).take j))) (m := 1) (T := 56) (s := 9) (by_ := 72) (ys := cR (recOf s)) rfl rfl rfl rfl hV (fun w hw => .row _ _ _ _ _ rfl (aA (.head _) w hw)) rfl o_m o_m) rfl n_h ?_
  rintro v38 _ ⟨G38, hV38, hn38, rfl⟩
  have hV9 : Vec 56 9 v38 (j + 1) (aE cR (((lastL l keep).map recOf).take (j + 1))) G38 := hV38.as rfl (by rw [sQ (show ((lastL l keep).map recOf)[j]? = some (recOf s) by rw [bz, hg]; rfl), jM])
  obtain ⟨a9, c9, rfl⟩ := hV9.slice
  refine A_4 ?_
  refine RW (v := (.int .i64 ((l.length - keep + (j + 1) : Nat) : Int))) rfl rfl (cA_ _ y_cg) (A_2 ?_)
  exact ⟨(j + 1, _, G38), ⟨by rw [hll]; (try simp only [decide_eq_true_eq, decide_eq_false_iff_not, beq_iff_eq, beq_eq_false_iff_ne, bne_iff_ne, bne_eq_false_iff_eq, ne_eq] at *); omega, hV9⟩, by dsimp only; rw [hll]; (try simp only [decide_eq_true_eq, decide_eq_false_iff_not, beq_iff_eq, beq_eq_false_iff_ne, bne_iff_ne, bne_eq_false_iff_eq, ne_eq] at *); omega, .cons rfl (.cons rfl .nil), a_g, fun _ h => h.sub (sR_.append (List.nil_sublist _))⟩
 refine A_7 ?_
 obtain rfl : j = (lastL l keep).length := by rw [hll]; (try simp only [decide_eq_true_eq, decide_eq_false_iff_not, beq_iff_eq, beq_eq_false_iff_ne, bne_iff_ne, bne_eq_false_iff_eq, ne_eq] at *); omega
 have ht9 : ((lastL l keep).map recOf).take (lastL l keep).length = (lastL l keep).map recOf := cw y_v
 rw [ht9] at hV
 exact EV rfl (cq _ _) hV
def copy_fn (b keep noted : Nat) (cs : List Cll) (ring : List Rcd) (hcl : cs.length < 1000000000) (w : AI) (hW : HistW w b keep noted cs ring) :
  aC prog 27 [P_ b] w [] (fun v H => ∃ b2, v = P_ b2 ∧ HistH b2 keep noted cs ring H) := by
 obtain ⟨⟨a, c, q0, qc, qz, hS, hA⟩, q1, q2, q3, q4⟩ := hW
 refine dR_ func27 ?_
 refine A_16 ?_
 refine RZ (aL rfl rfl (by rw [hC_len q3]; rfl) (aR hA y_v)) rfl (RX (bY (l := hC (.slice none 0 0) (List.replicate 32 r0) 0 0) y_i) rfl ?_)
 rintro _ _ ⟨b3, rfl, rfl⟩
 refine RZ (cQ (vs := hC (.slice a cs.length c) ring keep noted) 0 rfl rfl rfl (by rw [hC_len q3]; rfl) aOk rfl (by rw [hC_len q3, hC_len y_v]; decide)) rfl ?_
 simp only [ap]
 rw [xN (l := hC (.slice none 0 0) (List.replicate 32 r0) 0 0) (vs := hC (.slice a cs.length c) ring keep noted) (by rw [hC_len q3, hC_len y_v])]
 refine A_6 ?_
 refine RZ (aH rfl rfl (bF q0 y_v)) rfl (RX (dE K_ rfl (fun w hw => wC a c cs hcl w (hS.later0 hw))) rfl ?_)
 rintro v13 _ ⟨G13, hV13, rfl⟩
 obtain ⟨a13, c13, rfl⟩ := hV13.slice
 refine A_1 ?_
 refine cE (H' := (b3, _) :: G13) (fun _ h => St.fl [G13, [_]] [1, 0] rfl h) ?_
 refine RZ (cQ 0 rfl rfl rfl rfl rfl rfl (by rw [hC_len q3]; simp)) rfl ?_
 simp only [ap]
 rw [vB]
 refine A_6 ?_
 exact EV rfl sR_ ⟨b3, rfl, _, _, rfl, hV13, q3⟩
end Go.Proofs.YtdbgagkcgdlnnaaGreat.Hs
namespace Go.Proofs.YtdbgagkcgdlnnaaGreat
open Go Go.VV Go.Proofs Go.RowKit Go.Proofs.Tryz
def cSt (at_ y i : Int) (wr : Bool) : AA := [.int .u64 at_, .int .i64 y, .int .i64 i, .bool wr]
def cDz (n : Int) (tab : AH) : AA := [.int .i64 n, .pointer none, .pointer none, .int .u64 0, .slice none 0 0, .pointer none, .map none, .slice none 0 0, .slice none 0 0, .int .u32 0, .int .u64 0, tab]
def aOW (b o : Nat) (cs : AA) (T : AJ) (x s : Int) (hc : cs[o]? = some (.int .u64 x)) (hs : IntKind.u64.wrap (x + 1) = s) (w : AI) (hst : St w [b] [(b, blk cs T)] w) : aC prog 53 [.pointer (some ⟨b, o, none⟩), .int .u64 1] w [b] (fun v H => v = .int .u64 s ∧ H = [(b, blk (cs.set o (.int .u64 s)) T)]) := by
 refine dO_ func53 hst ?_
 refine A_10 ?_
 refine RZ (aQG (b := b) (off := o) (cs := cs) (T := T) 0 .u64 (x := x) (s := s) func90 y_i y_i y_i y_i rfl rfl hc (by rw [← hs]; rfl)) rfl (ZBB ?_)
 exact EV rfl sR_ ⟨rfl, rfl⟩
def aLF (b mb : Nat) (w : AI) (h1 : w.cell? ⟨b, 1, none⟩ = some (P_ mb)) : aC prog 24 [P_ b] w [] (V_ (.bool true)) := by
 refine dR_ func24 ?_
 refine ZDR ?_
 refine ZA1 ?_
 refine ZB6 ?_
 refine RZ (aH rfl rfl (bF h1 y_v)) rfl (ZA1 ?_)
 exact ZAw
def aMV (b : Nat) (k y : Int) (w : AI) (h3 : w.cell? ⟨b, 3, none⟩ = some (.int .u64 k)) : aC prog 26 [P_ b, .int .i64 y] w [] (V_ (.tuple #[.agg (cSt k y 0 false).toArray, .int .i64 0])) := by
 refine dR_ func26 ?_
 refine ZAn ?_
 refine ZAt fun b0 => ?_
 refine ZDR ?_
 refine RZ (aH rfl rfl (bF h3 y_v)) rfl (ZBR ?_)
 refine RS ?_
 refine RZ (xS_ 0) rfl (ZBB ?_)
 exact aF (fun w hw => bC rfl rfl rfl (aA (b := b0) (l := cSt k y 0 false) m_m w hw) rfl) ⟨rfl, rfl⟩
def aLI (b hb keep noted : Nat) (cs : List Hs.Cll) (ring : List Hs.Rcd) (hl : cs.length < 1000000000) (w : AI) (h2 : w.cell? ⟨b, 2, none⟩ = some (P_ hb)) (hW : Hs.HistW w hb keep noted cs ring) : aC prog 11 [P_ b] w [] (fun v H => ∃ b2, v = P_ b2 ∧ Hs.HistH b2 keep noted cs ring H) := by
 refine dR_ func11 ?_
 refine A_8 ?_
 refine ZAY ?_
 refine A_8 ?_
 refine RZ (aH rfl rfl (bF h2 y_v)) rfl (RX (dE K_ rfl (fun w hw => Hs.copy_fn hb keep noted cs ring hl w (hW.later0 hw))) rfl ?_)
 rintro _ _ ⟨G0, ⟨b0, rfl, hH9⟩, rfl⟩
 refine ZBB ?_
 exact EV rfl y_dz ⟨b0, rfl, hH9⟩
def aOi (n : Int) (w : AI) : aC prog 5 [.int .i64 n] w [] (fun v H => ∃ b tb oT, v = P_ b ∧ gN tb (.int .u32 0) [(tb, oT)] ∧ H = [(b, blk (cDz n (P_ tb)) 79), (tb, oT)]) := by
 refine dR_ func5 ?_
 refine ZDR ?_
 refine RX (dE K_ rfl (wQ_ aAt)) rfl ?_
 rintro _ _ ⟨GT, ⟨tb, rfl, hT⟩, rfl⟩
 obtain ⟨oT, rfl⟩ := hT.one
 refine RS ?_
 refine RX (dC (l := cDz n (P_ tb)) rfl rfl) rfl (ZBz fun b0 => ?_)
 refine ZBB ?_
 exact EV rfl sR_ ⟨b0, tb, oT, rfl, hT, rfl⟩
def aOZ (x : Int) (w : AI) : aC prog 107 [.int .u64 x] w [] (V_ (.bool false)) := by
 refine dR_ func107 ?_
 refine A_8 ?_
 refine dT false rfl rfl rfl (ge _) ?_
 exact ZAZ
def aOr (x : Int) (w : AI) : aC prog 86 [.int .u64 x] w [] (V_ (.bool false)) := by
 refine dR_ func86 ?_
 refine A_8 ?_
 refine dT false rfl rfl rfl (ge _) ?_
 exact ZAZ
def aNU (x y : Int) (w : AI) : aC prog 85 [.int .u64 x, .int .u64 y] w [] (V_ (.bool (decide (x < y)))) := by
 refine dR_ func85 ?_
 refine ZDR ?_
 refine RLv K_ (wQ_ (aOZ _)) ?_
 refine A_13 ?_
 exact E0 rfl ⟨rfl, rfl⟩
def aHT (a : AC) (c : Nat) (l : AB) (hs : l.Pairwise (· < ·)) (hl : l.length ≤ 1000000) (x : Int) (w : AI) (hN : Ns w .u64 a l) : aC prog 50 [.slice a l.length c, .int .u64 x] w [] (fun v H => ∃ (i : Nat) (f : Bool), v = .tuple #[.int .i64 i, .bool f] ∧ H = [] ∧ (f = false → x ∉ l)) := by
 refine dR_ func50 ?_
 refine A_8 ?_
 refine RY l_n rfl (A_10 ?_)
 refine bG (σ := Nat × Nat) [7, 8, 9, 13, 14, 15, 16, 17, 18, 19, 20, 21, 22, 23, 24, 25, 26, 27, 28, 29, 30] (fun s => [(7, .int .i64 s.1), (8, .int .i64 s.2)]) (fun _ => []) (fun s => s.1 ≤ s.2 ∧ s.2 ≤ l.length ∧ (∀ p, p < s.1 → l.getD p 0 < x) ∧ (∀ p, s.2 ≤ p → p < l.length → x ≤ l.getD p 0)) (fun s => s.2 - s.1) (0, l.length) ?_ ?_ ?_ ?_
 ·exact ⟨aj _, ax _, fun p hp => y_B, fun p h1 h2 => y_B⟩
 ·exact .cons rfl (.cons rfl .nil)
 ·exact fun _ h => h
 rintro ⟨i, j⟩ y3 ⟨hi, hj, q0, q1⟩
 dsimp only at hi hj q0 q1 ⊢
 refine ZDR ?_
 refine KC (fun q2 z2 => ?_) (fun q2 z2 => ?_)
 ·refine ZB2 ?_
  refine ZAb ?_
  refine RW (dM rfl rfl rfl) rfl y_dA (ZDK ?_)
  refine RW (v := (.int .i64 ((((i + j) / 2) : Nat) : Int))) rfl rfl (cA_ _ ((aI o_m o_m).trans o_m)) (ZBB ?_)
  obtain ⟨b, o, rfl, hr⟩ := hN.row (i := ((i + j) / 2)) o_m
  refine ZBB ?_
  refine RY (aV ((i + j) / 2) rfl rfl rfl rfl o_m) rfl (RZ (aH rfl rfl (bF (hr _ _ (dL (l := l) (j := ((i + j) / 2)) o_m)) y_v)) rfl (ZBR ?_))
  refine RLv K_ (wQ_ (aNU _ x)) ?_
  refine ZBR ?_
  refine KC (fun q3 z3 => ?_) (fun q3 z3 => ?_)
  ·refine ZAn ?_
   refine ZAb ?_
   refine ZAn ?_
   exact ⟨(((i + j) / 2) + 1, j), ⟨by show ((i + j) / 2) + 1 ≤ j; omega, hj, aSp hs (h := ((i + j) / 2)) o_m (c7 q3) rfl, q1⟩, by show j - (((i + j) / 2) + 1) < j - i; omega, .cons (by first | rfl | exact cA_ _ (bB o_m)) (.cons rfl .nil), a_g, fun _ h => h⟩
  refine ZB6 ?_
  exact ⟨(i, ((i + j) / 2)), ⟨by show i ≤ ((i + j) / 2); omega, by show ((i + j) / 2) ≤ l.length; omega, q0, fun p hp hq => by
   have hp : (i + j) / 2 ≤ p := hp
   have q4 := df q3
   rcases Nat.eq_or_lt_of_le hp with rfl | hp
   ·omega
   have q5 := (List.pairwise_iff_getElem.1 hs) ((i + j) / 2) p o_m hq hp
   have e1 : l.getD p 0 = l[p] := by simp [hq]
   have e2 : l.getD ((i + j) / 2) 0 = l[((i + j) / 2)] := by simp [show ((i + j) / 2) < l.length by omega]
   omega⟩, by show ((i + j) / 2) - i < j - i; omega, .cons rfl (.cons rfl .nil), a_g, fun _ h => h⟩
 refine ZAn ?_
 obtain rfl : i = j := by omega
 refine ZBx ?_
 refine KL (fun q3 z3 => ?_) (fun q3 z3 => ?_)
 ·obtain ⟨b, o, rfl, hr⟩ := hN.row (i := i) o_m
  refine ZAn ?_
  refine ZBY ?_
  refine RZ (aH rfl rfl (bF (hr _ _ (dL (l := l) (j := i) o_m)) y_v)) rfl (ZAn ?_)
  refine KL (fun q4 z4 => ?_) (fun q4 z4 => ?_)
  ·refine A_15 ?_
   exact aF (fun _ _ => bZ rfl rfl) ⟨_, _, rfl, rfl, fun h => y_ep⟩
  refine ZAn ?_
  refine ZBY ?_
  refine RZ (aH rfl rfl (bF (hr _ _ (dL (l := l) (j := i) o_m)) y_v)) rfl (RLv K_ (wQ_ (aOr _)) ?_)
  refine A_10 ?_
  exact aF (fun _ _ => bZ rfl rfl) ⟨_, _, rfl, rfl, fun _ => aGS hs q0 (fun hi => ⟨by simpa using q4, q1 i (ax _) hi⟩)⟩
 refine A_22 ?_
 exact aF (fun _ _ => bZ rfl rfl) ⟨_, _, rfl, rfl, fun _ => aGS hs q0 (fun hi => absurd hi o_m)⟩
def aOQ (a : AC) (c : Nat) (l : AB) (hl : l.length ≤ 1000000) (hb : aY l) (w : AI) (hB : Ns w .u8 a l) : aC prog 18 [.slice a l.length c] w [] (V_ (.int .u64 (aSG l))) := by
 refine dR_ func18 ?_
 refine A_12 ?_
 refine ZCJ ?_
 refine bG (σ := Nat) [3, 5, 8, 9, 10, 11, 12, 13, 14, 15, 16, 17] (fun i => [(3, .int .u64 (xK l i)), (8, .int .i64 i)]) (fun _ => []) (fun i => i ≤ l.length) (fun i => l.length - i) 0 ?_ ?_ ?_ ?_
 ·exact aj _
 ·exact .cons rfl (.cons rfl .nil)
 ·exact fun _ h => h
 rintro i y3 hi
 refine ZBx ?_
 refine KC (fun q0 z0 => ?_) (fun q0 z0 => ?_)
 ·refine ZB6 ?_
  obtain ⟨ba, oa, rfl, hra⟩ := hB.row (i := i) o_m
  have hby := hb.get i
  have hok := aMZ l i
  refine ZBR ?_
  refine RY (aV (n := l.length) i rfl rfl rfl rfl o_m) rfl (RZ (aH rfl rfl (bF (hra _ _ (dL (l := l) (j := i) o_m)) y_v)) rfl (ZBx ?_))
  refine RW (v := (.int .u64 (l.getD i 0))) rfl rfl (qX o_m o_m) (RW (aDL rfl rfl) rfl rfl (RW (v := (.int .u64 (xK l (i + 1)))) rfl rfl (zX _) (ZBB ?_)))
  exact ZCN
 refine ZAn ?_
 obtain rfl : i = l.length := by omega
 refine ZBx ?_
 exact E0 rfl ⟨rfl, rfl⟩
def aGd (a1 a2 : AC) (c1 c2 : Nat) (a b : AB) (hl : b.length ≤ 1000000) (hab : a.length = b.length) (w : AI) (hA : Ns w .u8 a1 a) (hB : Ns w .u8 a2 b) : aC prog 79 [.slice a1 a.length c1, .slice a2 b.length c2] w [] (V_ (.int .i64 (aQ a b))) := by
 refine dR_ func79 ?_
 refine A_10 ?_
 refine bG (σ := Nat) [5, 6, 7, 8, 9, 10, 11, 12, 13, 14, 15, 16, 17, 18, 19, 20, 21, 22] (fun i => [(5, .int .i64 i)]) (fun _ => []) (fun i => i ≤ aQ a b) (fun i => aQ a b - i) 0 ?_ ?_ ?_ ?_
 ·exact aj _
 ·exact .cons rfl .nil
 ·exact fun _ h => h
 rintro i y2 hi
 have hle := pV a b
 refine ZAn ?_
 have hx9 : i < b.length → ∃ b1 o1 b2 o2, a1 = some ⟨b1, o1, none⟩ ∧ a2 = some ⟨b2, o2, none⟩ ∧ Row w b1 o1 (a.map U_) ∧ Row w b2 o2 (b.map U_) := fun h => by
  obtain ⟨b0, o1, e1, r1⟩ := hA.row (i := i) o_m
  obtain ⟨b1, o2, e2, r2⟩ := hB.row (i := i) h
  exact ⟨b0, o1, b1, o2, e1, e2, r1, r2⟩
 refine DR [9, 10, 11, 12] (pln [0, 2, 4, 6, 8, 10, 12, 14, 16, 18, 20, 22, 24, 26, 28]) ?_
 refine ZAn ?_
 refine DY rfl l_n rfl (ZBR ?_)
 refine KE (fun q0 z0 => ?_) (fun q0 z0 => ?_)
 ·obtain ⟨b0, o1, b1, o2, rfl, rfl, hra, hrb⟩ := hx9 o_m
  refine ZAn ?_
  refine DY rfl (aV (n := a.length) i rfl rfl rfl rfl o_m) rfl (DL rfl rfl rfl (fG (hra _ _ (dL (l := a) (j := i) o_m)) y_v) rfl (ZAn ?_))
  refine DY rfl (aV (n := b.length) i rfl rfl rfl rfl o_m) rfl (DL rfl rfl rfl (fG (hrb _ _ (dL (l := b) (j := i) o_m)) y_v) rfl (ZBB ?_))
  refine KC (fun q1 z1 => ?_) (fun q1 z1 => ?_)
  ·refine ZB6 ?_
   refine ZAD ?_
   have hm9 := aBT hi o_m o_m y_bi
   exact ⟨i + 1, y_B, y_B, .cons rfl .nil, a_g, fun _ h => h⟩
  refine ZDR ?_
  exact E0 rfl ⟨rfl, (cA_ (fun n : Nat => Value.int .i64 (n : Int)) (aBB hi o_m o_m y_bi))⟩
 refine A_19 ?_
 exact E0 rfl ⟨rfl, (cA_ (fun n : Nat => Value.int .i64 (n : Int)) o_m)⟩
def aI0 (n0 : Nat) (hn : n0 ≤ 1000000) (xs0 : AB) (a0 : AC) (c0 : Nat) (G0 : aB) (hl : xs0.length ≤ 10000000) (hV0 : Vec 5 1 (.slice a0 xs0.length c0) xs0.length (xs0.map (.int .u8)) G0) (w : AI) (hst : St w (G0.map (·.1)) G0 w) : aC prog 80 [.slice a0 xs0.length c0, .int .i64 n0] w (G0.map (·.1)) (fun v H => ∃ a c, v = .slice a (xs0 ++ eH n0).length c ∧ Vec 5 1 v (xs0 ++ eH n0).length ((xs0 ++ eH n0).map (.int .u8)) H) := by
 refine dO_ func80 hst ?_
 refine ZB2 ?_
 refine bG (σ := Nat × AB × AC × Nat × aB) [0, 1, 5, 6, 7, 8, 9, 10, 11, 12, 13, 14] (fun s => [(0, .slice s.2.2.1 s.2.1.length s.2.2.2.1), (1, .int .i64 s.1)]) (fun s => s.2.2.2.2) (fun s => Vec 5 1 (.slice s.2.2.1 s.2.1.length s.2.2.2.1) s.2.1.length (s.2.1.map (.int .u8)) s.2.2.2.2 ∧ s.2.1 ++ eH s.1 = xs0 ++ eH n0 ∧ s.1 ≤ n0) (fun s => s.1) (n0, xs0, a0, c0, G0) ?_ ?_ ?_ ?_
 ·exact ⟨hV0, rfl, ax _⟩
 ·exact .cons rfl (.cons rfl .nil)
 ·exact fun _ h => h
 rintro ⟨n, xs, a, c, G⟩ y1 ⟨hV, he, hn9⟩
 dsimp only at hV he hn9 ⊢
 have hpl := cA_ List.length he
 rw [La_, La_] at hpl
 have hp0 := (nP n0).2
 refine ZB2 ?_
 refine KC (fun q0 z0 => ?_) (fun q0 z0 => ?_)
 ·refine ZB2 ?_
  refine RW (v := (.int .u8 ((n : Int) % 256))) rfl rfl (aBt _) (RW (v := (.int .u8 ((n % 128 + 128 : Nat) : Int))) (cM rfl rfl) rfl (cA_ _ ((aQU o_m).trans o_m)) (RX (bX (z := [.int .u8 0]) (l := [.int .u8 ((n % 128 + 128 : Nat) : Int)]) (ps := [(0, .int .u8 ((n % 128 + 128 : Nat) : Int))]) rfl rfl rfl rfl rfl rfl) rfl (ZBz fun b0 => ?_)))
  refine RX (iS (A := [(b0, _)]) (G := G) (v := .slice a xs.length c) (n := xs.length) (xs := xs.map (.int .u8)) (m := 1) (T := 5) (s := 1) (by_ := 1) (ys := [.int .u8 ((n % 128 + 128 : Nat) : Int)]) rfl rfl rfl rfl hV (fun w hw => .row _ _ _ _ _ rfl (aA (b := b0) (.head _) w hw)) rfl o_m o_m) rfl ?_
  rintro v0 _ ⟨Gx0, hW12, _, rfl⟩
  have hX12 : Vec 5 1 v0 (xs ++ [((n % 128 + 128 : Nat) : Int)]).length ((xs ++ [((n % 128 + 128 : Nat) : Int)]).map (.int .u8)) Gx0 := hW12.as (by rw [La_]; rfl) (by rw [aw]; rfl)
  obtain ⟨a12, cx0, rfl⟩ := hX12.slice
  refine ZB6 ?_
  refine RW (v := (.int .i64 ((n / 128 : Nat) : Int))) (dK rfl rfl y_b) rfl ((iK 128 y_b y_b).trans (cA_ _ o_m)) (ZAn ?_)
  exact ⟨(n / 128, xs ++ [((n % 128 + 128 : Nat) : Int)], a12, cx0, Gx0), ⟨hX12, by rw [As_, ← he, aKd (n := n) o_m]; rfl, by show n / 128 ≤ n0; omega⟩, by show n / 128 < n; omega, .cons rfl (.cons rfl .nil), a_g, fun _ h => h.sub (cq _ _)⟩
 refine ZAn ?_
 have hlt : n < 128 := by omega
 refine ZBB ?_
 refine RW (v := (.int .u8 (n : Int))) rfl rfl (aDJ o_m o_m) (RX (bX (z := [.int .u8 0]) (l := [.int .u8 (n : Int)]) (ps := [(0, .int .u8 (n : Int))]) rfl rfl rfl rfl rfl rfl) rfl (ZBz fun b0 => ?_))
 refine RX (iS (A := [(b0, _)]) (G := G) (v := .slice a xs.length c) (n := xs.length) (xs := xs.map (.int .u8)) (m := 1) (T := 5) (s := 1) (by_ := 1) (ys := [.int .u8 (n : Int)]) rfl rfl rfl rfl hV (fun w hw => .row _ _ _ _ _ rfl (aA (b := b0) (.head _) w hw)) rfl o_m o_m) rfl ?_
 rintro v0 _ ⟨Gx0, hW19, _, rfl⟩
 have e9 : xs ++ [(n : Int)] = xs0 ++ eH n0 := by rw [← aLg hlt]; exact he
 have hX19 : Vec 5 1 v0 (xs0 ++ eH n0).length ((xs0 ++ eH n0).map (.int .u8)) Gx0 := hW19.as (by rw [← e9, La_]; rfl) (by rw [← e9, aw]; rfl)
 obtain ⟨a19, cx0, rfl⟩ := hX19.slice
 refine ZBB ?_
 exact EV rfl (cq _ _) ⟨a19, cx0, rfl, hX19⟩
def aLJ (a1 a2 : AC) (c1 c2 : Nat) (a b : AB) (hl : b.length ≤ 1000000) (hab : a.length = b.length) (hc1 : a.length ≤ c1) (hc2 : b.length ≤ c2) (w : AI) (hA : Ns w .u8 a1 a) (hB : Ns w .u8 a2 b) : aC prog 81 [.slice a1 a.length c1, .slice a2 b.length c2] w [] (V_ (.int .i64 (oth a b))) := by
 refine dR_ func81 ?_
 refine A_10 ?_
 refine bG (σ := Nat) [5, 6, 7, 8, 9, 10, 11, 12, 13, 14, 15, 16, 17, 18, 19, 20, 21, 22, 23, 24, 25, 26, 27, 28, 29, 30, 31] (fun k => [(5, .int .i64 k)]) (fun _ => []) (fun k => k ≤ b.length ∧ k + oth (a.drop k) (b.drop k) = oth a b) (fun k => b.length - k) 0 ?_ ?_ ?_ ?_
 ·exact ⟨aj _, az _⟩
 ·exact .cons rfl .nil
 ·exact fun _ h => h
 rintro k y2 ⟨hk, he⟩
 refine ZBx ?_
 refine ZEd ?_
 refine KC (fun q0 z0 => ?_) (fun q0 z0 => ?_)
 ·refine ZBB ?_
  obtain ⟨b0, o1, rfl, hra⟩ := hA.row (i := k) o_m
  obtain ⟨b1, o2, rfl, hrb⟩ := hB.row (i := k) o_m
  have hda : (a.drop k).length = a.length - k := Ld_
  have hdb : (b.drop k).length = b.length - k := Ld_
  have hln := pV (a.drop k) (b.drop k)
  have hne : (b.drop k) ≠ [] := fun h => by rw [h] at hdb; simp only [ar] at hdb; omega
  refine DR [] (pln [0, 2, 4, 6, 8, 10, 13, 14]) ?_
  refine ZAn ?_
  refine DW (v := (.slice (some ⟨b0, o1 + k, none⟩) (a.drop k).length (c1 - k))) rfl (gE k a.length rfl rfl rfl rfl rfl rfl o_m o_m) rfl (by rw [sA o_m, hda]) (ZAn ?_)
  refine DW (v := (.slice (some ⟨b1, o2 + k, none⟩) (b.drop k).length (c2 - k))) rfl (gE k b.length rfl rfl rfl rfl rfl rfl o_m o_m) rfl (by rw [sA o_m, hdb]) (DZ rfl (aZ K_ rfl (fun w hw => aGd (some ⟨b0, o1 + k, none⟩) (some ⟨b1, o2 + k, none⟩) (c1 - k) (c2 - k) (a.drop k) (b.drop k) o_m o_m w (Ns.of (Row.dropK (aR hra y_v w hw) k)) (Ns.of (Row.dropK (aR hrb y_v w hw) k)))) rfl n_h (ZDR ?_))
  refine KL (fun q1 z1 => ?_) (fun q1 z1 => ?_)
  ·refine A_16 ?_
   exact ZDq
  refine ZAn ?_
  refine RW (v := (.int .i64 ((k + aQ (a.drop k) (b.drop k) : Nat) : Int))) rfl rfl (cA_ _ ((aI o_m o_m).trans o_m)) (ZBR ?_)
  refine ZCJ ?_
  refine KC (fun q2 z2 => ?_) (fun q2 z2 => ?_)
  ·refine ZDR ?_
   exact ZDq
  refine ZB6 ?_
  refine RW (v := (.int .i64 ((aQ (a.drop k) (b.drop k) + 1 : Nat) : Int))) rfl rfl (cA_ _ (bB o_m)) (RW (v := (.int .i64 ((k + (aQ (a.drop k) (b.drop k) + 1) : Nat) : Int))) rfl rfl (cA_ _ ((aI o_m o_m).trans o_m)) (ZAn ?_))
  have hns : ¬ (4 ≤ aQ (a.drop k) (b.drop k) ∨ aQ (a.drop k) (b.drop k) = (b.drop k).length) := by omega
  have hm9 := aD5 hne hns
  rw [bf, bf] at hm9
  exact ⟨k + (aQ (a.drop k) (b.drop k) + 1), ⟨y_B, y_B⟩, y_B, .cons rfl .nil, a_g, fun _ h => h⟩
 refine ZDR ?_
 have hz : oth (a.drop k) (b.drop k) = 0 := by rw [show (b.drop k) = [] from gf o_m]; exact aOw _
 exact E0 rfl ⟨rfl, (cA_ (fun n : Nat => Value.int .i64 (n : Int)) o_m)⟩
def wK {k : AM} {w : AI} {b off : Nat} {l : AB} (h : Row w b off (l.map (.int k))) {n c : Nat} (hc : l.length ≤ c) (hn : n ≤ l.length) : Row w b (cut1 off n c) ((l.drop n).map (.int k)) := by
 have q0 := h.cut1 (l := n) (k := l.length - n) (c := c) o_m
 rw [← f5, cw (by rw [Lm_, Ld_]; exact ax _)] at q0
 exact q0
def aPa (b1 o1 c1 b2 o2 c2 : Nat) (a b : AB) (hl : b.length ≤ 1000000) (hab : a.length = b.length) (hc1 : a.length ≤ c1) (hc2 : b.length ≤ c2) (w : AI) (hr1 : Row w b1 o1 (a.map (.int .u8))) (hr2 : Row w b2 o2 (b.map (.int .u8))) : aC prog 47 [.slice (some ⟨b1, o1, none⟩) a.length c1, .slice (some ⟨b2, o2, none⟩) b.length c2] w [] (fun v H => ∃ a6 c6, v = .tuple #[.slice a6 (fD a b).length c6, .int .i64 0] ∧ Vec 5 1 (.slice a6 (fD a b).length c6) (fD a b).length ((fD a b).map (.int .u8)) H) := by
 refine dR_ func47 ?_
 refine ZBx ?_
 refine aPS (σ := Nat × AB × AC × Nat × aB × Nat × Nat × Nat × Nat) 0 [0, 1, 4, 5, 6, 7, 8, 9, 10, 11, 12, 13, 14, 15, 16, 17, 18, 19, 20, 21, 22, 23, 24, 25, 26, 27, 28, 29, 30, 31, 32, 33, 34, 35, 36, 37, 38, 39, 40, 41, 42, 43, 44, 45] (fun s => [(0, .slice (some ⟨b1, s.2.2.2.2.2.1, none⟩) (a.drop s.1).length s.2.2.2.2.2.2.1), (1, .slice (some ⟨b2, s.2.2.2.2.2.2.2.1, none⟩) (b.drop s.1).length s.2.2.2.2.2.2.2.2), (6, .slice s.2.2.1 s.2.1.length s.2.2.2.1)]) (fun s => s.2.2.2.2.1) (fun s => s.1 ≤ b.length ∧ Vec 5 1 (.slice s.2.2.1 s.2.1.length s.2.2.2.1) s.2.1.length (s.2.1.map (.int .u8)) s.2.2.2.2.1 ∧ s.2.1 ++ fD (a.drop s.1) (b.drop s.1) = fD a b ∧ Row w b1 s.2.2.2.2.2.1 ((a.drop s.1).map (.int .u8)) ∧ (a.drop s.1).length ≤ s.2.2.2.2.2.2.1 ∧ Row w b2 s.2.2.2.2.2.2.2.1 ((b.drop s.1).map (.int .u8)) ∧ (b.drop s.1).length ≤ s.2.2.2.2.2.2.2.2) (fun s => b.length - s.1) rfl (fun _ => rfl) (fun hp => ?_) ?_
 ·refine ZB6 ?_
  refine RY l_n rfl (ZBR ?_)
  refine RY l_n rfl (dT false rfl rfl rfl y_bS ?_)
  refine A_8 ?_
  refine aNZ ?_
  exact hp (0, [], none, 0, [], o1, c1, o2, c2) _ _ ⟨aj _, .nil, rfl, hr1, hc1, hr2, hc2⟩ (.cons rfl (.cons rfl (.cons rfl .nil))) a_g (fun _ h => h)
 rintro ⟨j, xs, a6, c6, G, p1, q0, p2, q1⟩ y4 ⟨hj, hV, he, hr0, hq1, hrx1, hq2⟩
 dsimp only at hj hV he hr0 hq1 hrx1 hq2 ⊢
 obtain ⟨n9, hn9⟩ : ∃ n, n = aQ (a.drop j) (b.drop j) := ⟨_, rfl⟩
 obtain ⟨k9, hk9⟩ : ∃ k, k = oth (a.drop (j + n9)) (b.drop (j + n9)) := ⟨_, rfl⟩
 have hpk := aA9 a b
 have hxl := cA_ List.length he
 rw [La_] at hxl
 have hda : (a.drop j).length = a.length - j := Ld_
 have hdb : (b.drop j).length = b.length - j := Ld_
 have hln := pV (a.drop j) (b.drop j)
 rw [← hn9] at hln
 have hdn : (a.drop (j + n9)).length = a.length - (j + n9) := Ld_
 have hdm : (b.drop (j + n9)).length = b.length - (j + n9) := Ld_
 have hr5 : Row w b1 (cut1 p1 n9 q0) ((a.drop (j + n9)).map (.int .u8)) := by have h9 := wK hr0 (n := n9) (c := q0) o_m o_m; rw [bf] at h9; exact h9
 have hr6 : Row w b2 (cut1 p2 n9 q1) ((b.drop (j + n9)).map (.int .u8)) := by have h9 := wK hrx1 (n := n9) (c := q1) o_m o_m; rw [bf] at h9; exact h9
 have hpn := (nP n9).2
 have hko := aED (a.drop (j + n9)) (b.drop (j + n9))
 rw [← hk9] at hko
 have hdk : (a.drop (j + n9 + k9)).length = a.length - (j + n9 + k9) := Ld_
 have hdl : (b.drop (j + n9 + k9)).length = b.length - (j + n9 + k9) := Ld_
 have hpo := (nP k9).2
 refine ZB6 ?_
 refine RX (aZ K_ rfl (fun w hw => aGd (some ⟨b1, p1, none⟩) (some ⟨b2, p2, none⟩) q0 q1 (a.drop j) (b.drop j) o_m o_m w (Ns.of (aR hr0 y_v w hw)) (Ns.of (aR hrx1 y_v w hw)))) rfl ?_
 rintro _ G ⟨rfl, rfl⟩
 rw [← hn9]
 refine ZB2 ?_
 refine RX (dB K_ rfl (wV_ (aI0 n9 o_m xs a6 c6 G (by first | omega | (rw [La_]; omega)) hV))) rfl ?_
 rintro _ G0 ⟨a19, c0, rfl, hV0⟩
 refine ZBB ?_
 refine DR [] (pln [0, 2, 4, 6, 8, 10, 12, 14]) ?_
 refine ZAn ?_
 refine DW (v := (.slice (some ⟨b1, (cut1 p1 n9 q0), none⟩) (a.drop (j + n9)).length (q0 - n9))) rfl (gE n9 (a.drop j).length rfl rfl rfl rfl rfl rfl o_m o_m) rfl (by rw [hda, hdn, ja]) (ZAn ?_)
 refine DW (v := (.slice (some ⟨b2, (cut1 p2 n9 q1), none⟩) (b.drop (j + n9)).length (q1 - n9))) rfl (gE n9 (b.drop j).length rfl rfl rfl rfl rfl rfl o_m o_m) rfl (by rw [hdb, hdm, ja]) (ZDR ?_)
 refine ZEd ?_
 refine KC (fun q2 z2 => ?_) (fun q2 z2 => ?_)
 ·refine ZDR ?_
  have e9 : (xs ++ eH n9) = fD a b := by rw [← he, hn9, aAR (by rw [bf, ← hn9]; exact List.length_eq_zero_iff.1 o_m)]
  rw [e9] at hV0
  exact iN (fun _ _ => bZ rfl rfl) sR_ ⟨a19, c0, y_es, hV0⟩
 refine ZAn ?_
 have hne : (b.drop (j + n9)) ≠ [] := fun h => by have h9 := cA_ List.length h; simp only [ar] at h9; omega
 have hop := aAo hne (by have h9 := pA (a.drop j) (b.drop j); rw [bf, bf, ← hn9] at h9; exact h9)
 rw [← hk9] at hop
 refine ZBB ?_
 refine RX (aZ K_ rfl (fun w hw => aLJ (some ⟨b1, (cut1 p1 n9 q0), none⟩) (some ⟨b2, (cut1 p2 n9 q1), none⟩) (q0 - n9) (q1 - n9) (a.drop (j + n9)) (b.drop (j + n9)) o_m o_m o_m o_m w (Ns.of (aR hr5 y_v w hw)) (Ns.of (aR hr6 y_v w hw)))) rfl ?_
 rintro _ G0 ⟨rfl, rfl⟩
 rw [← hk9]
 refine ZBB ?_
 refine DR [] (pln [0, 2, 6, 8, 10, 5, 13, 14]) ?_
 refine ZB6 ?_
 refine DY rfl (aCp k9 rfl rfl rfl rfl o_m) rfl (DX rfl (dB K_ rfl (wV_ (aI0 k9 o_m (xs ++ eH n9) a19 c0 G0 (by first | omega | (rw [La_]; omega)) hV0))) rfl n_h ?_)
 rintro _ G1 ⟨a35, cx1, rfl, hV1⟩
 refine DX rfl (iS (A := []) (G := G1) (v := .slice a35 (xs ++ eH n9 ++ eH k9).length cx1) (n := (xs ++ eH n9 ++ eH k9).length) (xs := (xs ++ eH n9 ++ eH k9).map (.int .u8)) (m := k9) (T := 5) (s := 1) (by_ := 1) (ys := ((b.drop (j + n9)).take k9).map (.int .u8)) rfl rfl rfl rfl hV1 (fun w hw => .row _ _ _ _ _ (by rw [Lm_, Lt_]; omega) (Row.takeK (aR hr6 y_v w hw) k9)) (jF _ _) (by simp only [La_]; omega) (by simp only [La_]; omega)) rfl n_h ?_
 rintro v0 _ ⟨G2, hW39, _, rfl⟩
 have hX39 : Vec 5 1 v0 ((xs ++ eH n9 ++ eH k9) ++ (b.drop (j + n9)).take k9).length (((xs ++ eH n9 ++ eH k9) ++ (b.drop (j + n9)).take k9).map (.int .u8)) G2 := hW39.as (by simp only [La_, Lt_]; omega) (by simp only [aw])
 obtain ⟨a39, cx2, rfl⟩ := hX39.slice
 rw [bq]
 refine ZBB ?_
 refine DR [] (pln [0, 2, 4, 6, 8, 10, 12, 14]) ?_
 refine ZAn ?_
 refine DW (v := (.slice (some ⟨b1, cut1 (cut1 p1 n9 q0) k9 (q0 - n9), none⟩) (a.drop (j + n9 + k9)).length ((q0 - n9) - k9))) rfl (gE k9 (a.drop (j + n9)).length rfl rfl rfl rfl rfl rfl o_m o_m) rfl (by rw [hdn, hdk, ja]) (ZAn ?_)
 refine DW (v := (.slice (some ⟨b2, cut1 (cut1 p2 n9 q1) k9 (q1 - n9), none⟩) (b.drop (j + n9 + k9)).length ((q1 - n9) - k9))) rfl (gE k9 (b.drop (j + n9)).length rfl rfl rfl rfl rfl rfl o_m o_m) rfl (by rw [hdm, hdl, ja]) (ZBB ?_)
 refine aQ1 rfl ?_
 refine ⟨(j + n9 + k9, ((xs ++ eH n9 ++ eH k9) ++ (b.drop (j + n9)).take k9), a39, cx2, G2, cut1 (cut1 p1 n9 q0) k9 (q0 - n9), (q0 - n9) - k9, cut1 (cut1 p2 n9 q1) k9 (q1 - n9), (q1 - n9) - k9), ⟨by show j + n9 + k9 ≤ b.length; omega, hX39, ?_, ?_, by show (a.drop (j + n9 + k9)).length ≤ (q0 - n9) - k9; omega, ?_, by show (b.drop (j + n9 + k9)).length ≤ (q1 - n9) - k9; omega⟩, by show b.length - (j + n9 + k9) < b.length - j; omega, .cons rfl (.cons rfl (.cons rfl .nil)), a_g, fun _ h => h⟩
 ·rw [As_, As_, As_, ← he]
  have q3 := zV (a := (a.drop j)) (b := (b.drop j)) (by rw [bf, ← hn9]; exact hne)
  rw [bf, bf, bf, bf, ← hn9, ← hk9] at q3
  rw [q3]
 ·have q3 := wK hr5 (n := k9) (c := (q0 - n9)) o_m o_m; rw [bf] at q3; exact q3
 have q3 := wK hr6 (n := k9) (c := (q1 - n9)) o_m o_m; rw [bf] at q3; exact q3
def aNE (a b : AB) : AB :=
 if b.drop (aQ a b) = [] then [] else
  eH (oth (a.drop (aQ a b)) (b.drop (aQ a b))) ++ ((b.drop (aQ a b)).take (oth (a.drop (aQ a b)) (b.drop (aQ a b))) ++
   fD ((a.drop (aQ a b)).drop (oth (a.drop (aQ a b)) (b.drop (aQ a b)))) ((b.drop (aQ a b)).drop (oth (a.drop (aQ a b)) (b.drop (aQ a b)))))
def aL9 (a b : AB) : fD a b = eH (aQ a b) ++ aNE a b := by
 unfold aNE
 split
 ·rename_i h; rw [aAR h, bq]
 ·rename_i h; exact zV h
def over (a b : AB) (j : Nat) : AB := b.take j ++ a.drop j
def nO {A X Z vs : AA} {m : Nat} (hA : A.length = m) (hX : X.length = vs.length) : aP (A ++ (X ++ Z)) m vs = A ++ (vs ++ Z) := by
 subst hA
 unfold aP
 rw [ib, ← hX, show A ++ (X ++ Z) = (A ++ X) ++ Z from (As_ _ _ _).symm, ← La_, fu, As_]
def aMh (d : Db) (g : Gx) (hg : g.Ok) (k n : Nat) (hd : d.Ok g k n) (hk : k < n) (w : AI) (hst : St w ((d.H g k).map (·.1)) (d.H g k) w) : aC prog 22 [P_ d.b] w ((d.H g k).map (·.1)) (fun v H => v = .tuple #[] ∧ H = d.H g k) := by
 obtain ⟨b, hb, lb, mp, fa, fc, fs, cap, asked, done, q, m, ring, GH, ms, GL, l, c, pv, wv, tab, D⟩ := d
 obtain ⟨hle, hq, hm, hh, hrg, hL, hpk, hfi, hpa, htm, hpl⟩ := hd
 dsimp only at hle hq hm hh hrg hL hpk hfi hpa htm hpl
 refine ZCs fun hst hml => ?_
 obtain ⟨hm0, hm1, hm2⟩ := hL.more o_m
 refine dO_ func22 hst ?_
 refine ZDo ?_
 refine A_8 ?_
 refine ZDb ?_
 refine ZB2 ?_
 refine ZDb ?_
 refine ZB6 ?_
 exact EN sR_ ⟨rfl, rfl⟩
def aFH (d : Db) (g : Gx) (hg : g.Ok) (n : Nat) (hn : n < 1000000) (hd : d.Ok g n n) (w : AI) (hst : St w ((d.H g n).map (·.1)) (d.H g n) w) : aC prog 22 [P_ d.b] w ((d.H g n).map (·.1)) (fun v H => v = .tuple #[] ∧ ∃ e : Db, e.Ok g n (n + 1) ∧ d.To e ∧ e.done = d.done ∧ H = e.H g n) := by
 obtain ⟨b, hb, lb, mp, fa, fc, fs, cap, asked, done, q, m, ring, GH, ms, GL, l, c, pv, wv, tab, D⟩ := d
 obtain ⟨hle, hq, hm, hh, hrg, hL, hpk, hfi, hpa, htm, hpl⟩ := hd
 dsimp only at hle hq hm hh hrg hL hpk hfi hpa htm hpl
 have hst : St w _ ((b, blk (cDb cap (pM q) (P_ hb) n (.slice (Q_ fa) (g.enc 0).length fc) lb mp pv wv asked done tab) 79) :: (mp, dG .u64 (l) (c)) :: (hM q m ++ (GH ++ (GL ++ D)))) w := hst
 have hml : ms.length ≤ 256 := by have := hL.len; have := (capT_ok cap).2; omega
 have hiv := hm.inv (hg.inv n)
 have hrl : m.ram.length ≤ 200000 := by rw [hiv.fr.ram]; have := aAU g.rom; omega
 have henc : fY m = g.enc n := hm.enc
 have hel := hg.enc_le n
 have hpp : 1 ≤ (fD (g.enc 0) (g.enc n)).length := by rw [aL9, La_]; have := (nP (aQ (g.enc 0) (g.enc n))).1; omega
 have hpc := aA9 (g.enc 0) (g.enc n)
 have hnx : Tm.Nxt n ((n - 1 : Nat) : Int) (n : Int) := ⟨fun h => y_B, fun h => y_B⟩
 refine dO_ func22 hst ?_
 refine ZDo ?_
 refine ZB2 ?_
 refine pJ (σ := Unit) [18, 19, 20, 21, 22, 23, 24, 25, 26] (fun _ => [(26, .bool false)]) (fun _ => (b, blk (cDb cap (pM q) (P_ hb) n (.slice (Q_ fa) (g.enc 0).length fc) lb mp pv wv asked done tab) 79) :: (mp, dG .u64 (l) (c)) :: (hM q m ++ (GH ++ (GL ++ D)))) (fun _ => True) ?_ ?_
 ·rcases dd n with hz | hz
  ·refine ZBR ?_
   have hz9 := (hL.zero hz).1
   subst hz9
   refine ZAY ?_
   refine A_9 ?_
   exact ⟨(), trivial, .cons rfl .nil, a_g, fun _ h => h⟩
  refine ZBR ?_
  obtain ⟨hm0, hm1, hm2⟩ := hL.more hz
  refine ZDb ?_
  refine ZB2 ?_
  refine ZAT ?_
  refine ZAn ?_
  exact ⟨(), trivial, .cons rfl .nil, a_g, fun _ h => h⟩
 rintro _ y1 _
 refine fK false rfl rfl ?_
 refine ZAn ?_
 refine gM [(b, blk (cDb cap (pM q) (P_ hb) n (.slice (Q_ fa) (g.enc 0).length fc) lb mp pv wv asked done tab) 79)] [4, 5, 6, 7, 8] (.step true 0 (.step true 1 (.step true 2 (.step true 3 (.step true 4 (.step true 5 (.step true 6 (.step true 7 (.step false 8 (.step false 9 (.step true 10 (.step true 11 (.step true 12 (.step true 13 (.step true 14 .done))))))))))))))) rfl y_i y_i (fun x hx => by rw [List.mem_singleton.1 hx]; exact .head _) ?_
 refine A_8 ?_
 refine DX rfl (cB (F := [(b, blk (cDb cap (pM q) (P_ hb) n (.slice (Q_ fa) (g.enc 0).length fc) lb mp pv wv asked done tab) 79), (mp, dG .u64 (l) (c))]) (A := hM q m) (G := GH ++ (GL ++ D)) K_ rfl (fun w h1 _ => (by have h9 := aGh q m hiv.wf hiv.rg hrl _ w h1; rw [henc] at h9; exact h9))) rfl (by intro _ _ _ hK x hx; obtain ⟨_, ⟨_, _, _, _, _, rfl⟩, rfl⟩ := hK; rw [List.mem_singleton.1 hx]; exact .head _) ?_
 rintro _ _ ⟨_, ⟨b0, c0, sp0, rfl, hc0, rfl⟩, rfl⟩
 refine DX rfl (dE K_ rfl (fun w hw => aPa fa 0 fc b0 0 c0 (g.enc 0) (g.enc n) o_m (hg.enc_len n).symm hfi.2 hc0 w (aA (b := fa) (l := (g.enc 0).map U_ ++ fs) (.tail _ (.tail _ (mR_ _ (mR_ _ (mR_ _ hfi.1))))) w hw).left (aA (b := b0) (l := (g.enc n).map U_ ++ sp0) (.tail _ (.tail _ (.head _))) w hw).left)) rfl n_h ?_
 rintro _ _ ⟨G0, ⟨a37, cx1, rfl, hV0⟩, rfl⟩
 obtain ⟨b1, c37', sp1, e37, rfl, _, hc1, _⟩ := hV0.full o_m
 cases e37
 refine ZBh ?_
 refine ZB2 ?_
 refine eP (L' := (b, blk (cDb cap (pM q) (P_ hb) n (.slice (Q_ fa) (g.enc 0).length fc) lb mp pv wv asked done tab) 79) :: (mp, dG .u64 (l) (c)) :: (GL ++ (hM q m ++ (GH ++ ((b1, blk ((fD (g.enc 0) (g.enc n)).map U_ ++ sp1) 5) :: (b0, blk ((g.enc n).map U_ ++ sp0) 5) :: D))))) (fun _ h => St.fl [[(b1, blk ((fD (g.enc 0) (g.enc n)).map U_ ++ sp1) 5)], [(b, blk (cDb cap (pM q) (P_ hb) n (.slice (Q_ fa) (g.enc 0).length fc) lb mp pv wv asked done tab) 79), (mp, dG .u64 (l) (c))], [(b0, blk ((g.enc n).map U_ ++ sp0) 5)], hM q m, GH, GL, D] [1, 5, 3, 4, 0, 2, 6] rfl h) ?_
 refine DR [4, 5, 6, 7, 8] (pln [0, 2, 4, 6, 8, 10, 12, 14, 16, 19]) ?_
 refine A_9 ?_
 refine DX rfl (cB (F := [(b, blk (cDb cap (pM q) (P_ hb) n (.slice (Q_ fa) (g.enc 0).length fc) lb mp pv wv asked done tab) 79), (mp, dG .u64 (l) (c))]) (A := GL) (G := hM q m ++ (GH ++ ((b1, blk ((fD (g.enc 0) (g.enc n)).map U_ ++ sp1) 5) :: (b0, blk ((g.enc n).map U_ ++ sp0) 5) :: D))) K_ rfl (fun w _ h2 => Tm.add_at (capT_ok cap) hL o_m hnx o_m h2 (aJq h2 (mR_ _ (mR_ _ (mR_ _ (.head _))))))) rfl n_h ?_
 rintro _ _ ⟨_, ⟨rfl, mk, G', D', e1, e2, rfl, hL0⟩, rfl⟩
 refine ZAn ?_
 refine eP (L' := (b, blk (cDb cap (pM q) (P_ hb) n (.slice (Q_ fa) (g.enc 0).length fc) lb mp pv wv asked done tab) 79) :: (mp, dG .u64 (l) (c)) :: (G' ++ (hM q m ++ (GH ++ (D' ++ ((b1, blk ((fD (g.enc 0) (g.enc n)).map U_ ++ sp1) 5) :: (b0, blk ((g.enc n).map U_ ++ sp0) 5) :: D)))))) (fun _ h => by rw [As_] at h; exact St.fl [[(b, blk (cDb cap (pM q) (P_ hb) n (.slice (Q_ fa) (g.enc 0).length fc) lb mp pv wv asked done tab) 79), (mp, dG .u64 (l) (c))], G', D', hM q m, GH, ((b1, blk ((fD (g.enc 0) (g.enc n)).map U_ ++ sp1) 5) :: (b0, blk ((g.enc n).map U_ ++ sp0) 5) :: D)] [0, 1, 3, 4, 2, 5] rfl h) ?_
 refine gM [(b, blk (cDb cap (pM q) (P_ hb) n (.slice (Q_ fa) (g.enc 0).length fc) lb mp pv wv asked done tab) 79)] [4, 5, 6, 7, 8, 9, 10, 11, 12] (.step true 0 (.step true 1 (.step true 2 (.step true 3 (.step true 4 (.step true 5 (.step true 6 (.step true 7 (.step true 8 (.step true 9 (.step true 10 (.step true 11 (.step false 12 (.step false 13 .done)))))))))))))) rfl y_i y_i (fun x hx => by rw [List.mem_singleton.1 hx]; exact .head _) ?_
 refine A_12 ?_
 refine DX rfl (dE K_ rfl (fun w hw => Hs.copy_fn hb 32 n (Hs.callsL (g.sts n)) ring (by have := Hs.callsL_len (g.sts n); omega) w (hh.histW hw (fun x hx => .tail _ (.tail _ (mR_ _ (mR_ _ (mL_ _ hx)))))))) rfl (by intro _ _ _ hK x hx; obtain ⟨_, ⟨_, rfl, _⟩, rfl⟩ := hK; rw [List.mem_singleton.1 hx]; exact mR_ _ (.head _)) ?_
 rintro _ _ ⟨G1, ⟨b2, rfl, hH62⟩, rfl⟩
 refine gL (H' := (b, blk (cDb cap (pM q) (P_ hb) n (.slice (Q_ fa) (g.enc 0).length fc) lb mp pv wv asked done tab) 79) :: (mp, dG .u64 (l) (c)) :: (G' ++ (hM q m ++ (GH ++ (G1 ++ (D' ++ ((b1, blk ((fD (g.enc 0) (g.enc n)).map U_ ++ sp1) 5) :: (b0, blk ((g.enc n).map U_ ++ sp0) 5) :: D))))))) (fun _ h => St.fl [G1, [(b, blk (cDb cap (pM q) (P_ hb) n (.slice (Q_ fa) (g.enc 0).length fc) lb mp pv wv asked done tab) 79), (mp, dG .u64 (l) (c))], G', hM q m, GH, D' ++ ((b1, blk ((fD (g.enc 0) (g.enc n)).map U_ ++ sp1) 5) :: (b0, blk ((g.enc n).map U_ ++ sp0) 5) :: D)] [1, 2, 3, 4, 0, 5] rfl h) ?_
 obtain ⟨hfn, hpa2⟩ := (hpa.more (D' := (G1 ++ (D' ++ ((b1, blk ((fD (g.enc 0) (g.enc n)).map U_ ++ sp1) 5) :: (b0, blk ((g.enc n).map U_ ++ sp0) 5) :: D)))) (fun x hx => mR_ _ (mR_ _ (.tail _ (.tail _ hx))))).new ⟨b2, ring, G1, rfl, hH62, hrg, (fun x hx => mL_ _ hx)⟩ e1 (ms' := (Tm.addM (capT cap).toNat ms mk)) (fun x hx => (Tm.addM_sub _ _ _).subset hx)
 refine DZ rfl (aD7 1 rfl rfl rfl rfl rfl hfn) rfl n_h ?_
 try simp only [cg, bw, bq, ap, cn]
 refine ZAn ?_
 obtain ⟨hn0, _, _⟩ := hL0.more o_m
 have hml2 : (Tm.addM (capT cap).toNat ms mk).length ≤ 256 := by have := hL0.len; have := (capT_ok cap).2; omega
 refine ZBx ?_
 refine RX (dE K_ rfl (fun w hw => Tm.marks_fn lb (capT cap) (Tm.addM (capT cap).toNat ms mk) o_m w (hL0.line.lineW hw (fun x hx => .tail _ (.tail _ (mL_ _ hx)))))) rfl ?_
 rintro v0 _ ⟨G2, hV1, rfl⟩
 obtain ⟨b3, c2, sp2, e67, rfl, _, hc2, _⟩ := (hV1.as (Tm.times_len (Tm.addM (capT cap).toNat ms mk)).symm rfl).full (by rw [Tm.times_len]; omega)
 subst e67
 refine A_8 ?_
 refine RX (aIs (l := l ++ [((n : Int), P_ b2, c)]) (c := c + 1) rfl rfl (.tail _ (.tail _ (.head _)))) rfl ?_
 rintro _ _ ⟨r72, rfl, rfl⟩
 refine cE (H' := (r72, itO mp (c + 1) [] (c + 1)) :: (b, blk (cDb cap (pM q) (P_ hb) n (.slice (Q_ fa) (g.enc 0).length fc) lb mp pv wv asked done tab) 79) :: (mp, dG .u64 (l ++ [((n : Int), P_ b2, c)]) (c + 1)) :: (G' ++ (hM q m ++ (GH ++ ((b3, blk ((Tm.times (Tm.addM (capT cap).toNat ms mk)).map (Value.int .u64) ++ sp2) 31) :: (G1 ++ (D' ++ ((b1, blk ((fD (g.enc 0) (g.enc n)).map U_ ++ sp1) 5) :: (b0, blk ((g.enc n).map U_ ++ sp0) 5) :: D)))))))) (fun _ h => St.fl [[(r72, itO mp (c + 1) [] (c + 1))], [(b3, blk ((Tm.times (Tm.addM (capT cap).toNat ms mk)).map (Value.int .u64) ++ sp2) 31)], [(b, blk (cDb cap (pM q) (P_ hb) n (.slice (Q_ fa) (g.enc 0).length fc) lb mp pv wv asked done tab) 79), (mp, dG .u64 (l ++ [((n : Int), P_ b2, c)]) (c + 1))], G', hM q m, GH, (G1 ++ (D' ++ ((b1, blk ((fD (g.enc 0) (g.enc n)).map U_ ++ sp1) 5) :: (b0, blk ((g.enc n).map U_ ++ sp0) 5) :: D)))] [0, 2, 3, 4, 5, 1, 6] rfl h) ?_
 refine ZAn ?_
 refine bG (σ := List Ent × AE) [7, 8, 9, 73, 74, 75, 76, 77, 78, 79, 80, 81, 82, 83, 84, 85, 86, 87, 88, 89] (fun _ => []) (fun s => (r72, itO mp (c + 1) s.2 (c + 1)) :: (b, blk (cDb cap (pM q) (P_ hb) n (.slice (Q_ fa) (g.enc 0).length fc) lb mp pv wv asked done tab) 79) :: (mp, dG .u64 s.1 (c + 1)) :: (G' ++ (hM q m ++ (GH ++ ((b3, blk ((Tm.times (Tm.addM (capT cap).toNat ms mk)).map (Value.int .u64) ++ sp2) 31) :: (G1 ++ (D' ++ ((b1, blk ((fD (g.enc 0) (g.enc n)).map U_ ++ sp1) 5) :: (b0, blk ((g.enc n).map U_ ++ sp0) 5) :: D)))))))) (fun s => oZ g s.1 (c + 1) (Tm.addM (capT cap).toNat ms mk) (n + 1) (G1 ++ (D' ++ ((b1, blk ((fD (g.enc 0) (g.enc n)).map U_ ++ sp1) 5) :: (b0, blk ((g.enc n).map U_ ++ sp0) 5) :: D)))) (fun s => (kD s.1 s.2).length) (l ++ [((n : Int), P_ b2, c)], []) ?_ ?_ ?_ ?_
 ·exact hpa2
 ·exact .nil
 ·exact fun _ h => h
 rintro ⟨l9, seen⟩ y7 hp9
 dsimp only at hp9 ⊢
 refine ZBR ?_
 by_cases hle9 : kD l9 seen = []
 ·refine ZBR ?_
  refine RZ (aIp 0 rfl rfl (.tail _ (.tail _ (.head _))) hp9.old (ax _) hle9) rfl (ZAY ?_)
  refine ZB6 ?_
  refine eQ (H' := (b, blk (cDb cap (pM q) (P_ hb) n (.slice (Q_ fa) (g.enc 0).length fc) lb mp pv wv asked done tab) 79) :: (mp, dG .u64 (l9) (c + 1)) :: (hM q m ++ (GH ++ (G' ++ ((b3, blk ((Tm.times (Tm.addM (capT cap).toNat ms mk)).map (Value.int .u64) ++ sp2) 31) :: (G1 ++ (D' ++ ((b1, blk ((fD (g.enc 0) (g.enc n)).map U_ ++ sp1) 5) :: (b0, blk ((g.enc n).map U_ ++ sp0) 5) :: D)))))))) (fun _ _ => eL) (fun _ h => St.fl [[(r72, itO mp (c + 1) seen (c + 1))], [(b, blk (cDb cap (pM q) (P_ hb) n (.slice (Q_ fa) (g.enc 0).length fc) lb mp pv wv asked done tab) 79), (mp, dG .u64 (l9) (c + 1))], G', hM q m, GH, ((b3, blk ((Tm.times (Tm.addM (capT cap).toNat ms mk)).map (Value.int .u64) ++ sp2) 31) :: (G1 ++ (D' ++ ((b1, blk ((fD (g.enc 0) (g.enc n)).map U_ ++ sp1) 5) :: (b0, blk ((g.enc n).map U_ ++ sp0) 5) :: D))))] [1, 3, 4, 2, 5] rfl h) ?_
  refine ⟨rfl, ⟨b, hb, lb, mp, fa, fc, fs, cap, asked, done, q, m, ring, GH, (Tm.addM (capT cap).toNat ms mk), G', l9, c + 1, pv, wv, tab, ((b3, blk ((Tm.times (Tm.addM (capT cap).toNat ms mk)).map (Value.int .u64) ++ sp2) 31) :: (G1 ++ (D' ++ ((b1, blk ((fD (g.enc 0) (g.enc n)).map U_ ++ sp1) 5) :: (b0, blk ((g.enc n).map U_ ++ sp0) 5) :: D))))⟩, ⟨Nat.le_succ _, hq, hm, hh, hrg, aCB hL0 ?_, fun x hx => ?_, ⟨(.tail _ (mR_ _ (mR_ _ (.tail _ (.tail _ hfi.1))))), hfi.2⟩, ?_, ?_, ?_⟩, ⟨rfl, rfl, rfl, rfl, rfl, rfl, rfl, (fun x hx => .tail _ (mR_ _ (mR_ _ (.tail _ (.tail _ hx)))))⟩, rfl, rfl⟩
  ·exact fun x hx => .tail _ (mR_ _ ((List.mem_append.1 hx).elim (fun h => mL_ _ h) (fun h => mR_ _ (.tail _ (.tail _ h)))))
  ·rcases List.mem_append.1 ((Tm.addM_sub _ _ _).subset hx) with h9 | h9
   ·exact hpk x h9
   rw [List.mem_singleton.1 h9, e2, e1]; rfl
  ·exact hp9.more (fun x hx => .tail _ hx)
  ·show Tm.times (Tm.addM (capT cap).toNat ms mk) = aMl _ (n + 1)
   rw [aHl, e1, htm]; rfl
  obtain ⟨GP, q0, q1⟩ := hpl
  exact ⟨GP, q0, fun x hx => .tail _ (mR_ _ (mR_ _ (.tail _ (.tail _ (q1 x hx)))))⟩
 refine ZBR ?_
 refine RX (aIb 0 rfl rfl (.tail _ (.tail _ (.head _))) hp9.old (ax _) hle9) rfl ?_
 rintro _ _ ⟨y9, hy9, rfl, rfl⟩
 rw [ap]
 refine ZA1 ?_
 refine ZDR ?_
 refine RZ (aIe rfl (.head _) (.tail _ (.tail _ (.head _))) (aJj hy9) hp9.nd) rfl (ZDR ?_)
 refine RX (dE K_ rfl (fun w hw => aHT (Q_ b3) c2 (Tm.times (Tm.addM (capT cap).toNat ms mk)) (aG6 hL0.rise) (by rw [Tm.times_len]; omega) y9.1 w (Ns.of (aA (b := b3) (l := (Tm.times (Tm.addM (capT cap).toNat ms mk)).map (Value.int .u64) ++ sp2) (.tail _ (.tail _ (.tail _ (mR_ _ (mR_ _ (mR_ _ (.head _))))))) w hw).left))) rfl ?_
 rintro _ _ ⟨_, ⟨j9, f9, rfl, rfl, hf9⟩, rfl⟩
 rw [bw]
 refine A_11 ?_
 refine KC (fun q0 z0 => ?_) (fun q0 z0 => ?_)
 ·refine ZB2 ?_
  refine RZ (aLO 2 rfl rfl rfl rfl rfl) rfl ?_
  try simp only [cg, bw, bq, ap, cn]
  refine ZBR ?_
  exact ⟨(jO y9.1 l9, seen ++ [y9.2.2]), hp9.drop (fun x hx he => hf9 (by simpa using q0) (List.mem_map.2 ⟨x, hx, he⟩)), Nat.lt_of_le_of_lt (aHz _ _ _) (aBS hy9), .nil, a_g, fun _ h => h⟩
 refine ZBR ?_
 exact ⟨(l9, seen ++ [y9.2.2]), hp9, aBS hy9, .nil, a_g, fun _ h => h⟩
def aNI (ob : Nat) (rom : AB) (hl : rom.length ≤ 100000000) (hb : aY rom) (he : errH rom = 0) (pa : AC) (n pc : Nat) (ms : AE) (w : AI) (hst : St w ms [(ob, blk (rom.map U_) 5)] w) :
  aC prog 16 [.slice (Q_ ob) rom.length rom.length, .slice pa n pc] w ms (fun v H => ∃ q : MA, q.A.ob = ob ∧ q.Ok pa n pc ∧ v = .tuple #[pM q, .int .i64 0] ∧ H = hM q (dX rom)) := by
 refine aC.frame (F := []) (G := [(ob, blk (rom.map U_) 5)]) hst (fun b hb => by cases hb) (aO6 ob rom.length rom hl hb (ax _) pa n pc w (aA (.head _) w hst)) ?_
 rintro v H w' (⟨h1, _⟩ | ⟨_, mb, ub, rb, tb, oT, hT, rfl, rfl⟩) hw
 ·exact absurd he h1
 have hn := hw.nodup
 simp only [cg, bw, be, ct, i3, eu, fi, or_false, not_or] at hn
 refine ⟨_, St.perm_ix 5 [3, 0, 2, 1, 4] y_b rfl (L' := hM ⟨mM mb ub rb tb ob rom.length [] (.slice pa n pc) (hdH rom).ram.toNat, tb, oT, .slice none 0 0⟩ (dX rom)) (by simp only [hM, mM, bq]; rfl) hw, ⟨mM mb ub rb tb ob rom.length [] (.slice pa n pc) (hdH rom).ram.toNat, tb, oT, .slice none 0 0⟩, rfl, ⟨⟨?_, ?_⟩, hT, rfl, rfl, _, _, _, rfl⟩, rfl, rfl⟩
 ·show rb ∉ [mb, ub]
  simp only [eu, fi, or_false, not_or]
  exact ⟨fun h => hn.1.1 h.symm, fun h => hn.2.1.1 h⟩
 ·show ob ∉ [mb, ub]
  simp only [eu, fi, or_false, not_or]
  exact ⟨fun h => hn.1.2.2.2 h.symm, fun h => hn.2.2.1.2 h.symm⟩
def aRv (ob : Nat) (rom : AB) (hl : rom.length ≤ 100000000) (hb : aY rom) (he : errH rom = 0) (pa : AC) (n pc : Nat) (ms : AE) (w : AI) (hst : St w ms [(ob, blk (rom.map U_) 5)] w) :
  aC prog 16 [.slice (Q_ ob) rom.length rom.length, .slice pa n pc] w ms (fun v H => ∃ q : MA, q.Ok pa n pc ∧ v = .tuple #[pM q, .int .i64 0] ∧ H = hM q (dX rom)) :=
 (aNI ob rom hl hb he pa n pc ms w hst).mono fun _ _ ⟨q, _, h⟩ => ⟨q, h⟩
def aLz (g : Gx) (hg : g.Ok) (b : Nat) (cap asked done : Int) (c1 c2 c3 c4 c5 c6 pv wv tab : AH) (ob : Nat) (GP R : aB) (hP : yY 174 g.plan g.pa g.pc GP) (w : AI) (hst : St w (((b, blk [.int .i64 cap, c1, c2, c3, c4, c5, c6, pv, wv, .int .u32 asked, .int .u64 done, tab] 79) :: (ob, blk (g.rom.map U_) 5) :: (GP ++ R)).map (·.1)) ((b, blk [.int .i64 cap, c1, c2, c3, c4, c5, c6, pv, wv, .int .u32 asked, .int .u64 done, tab] 79) :: (ob, blk (g.rom.map U_) 5) :: (GP ++ R)) w) : aC prog 7 [P_ b, .slice (Q_ ob) g.rom.length g.rom.length, .slice g.pa g.plan.length g.pc] w (((b, blk [.int .i64 cap, c1, c2, c3, c4, c5, c6, pv, wv, .int .u32 asked, .int .u64 done, tab] 79) :: (ob, blk (g.rom.map U_) 5) :: (GP ++ R)).map (·.1)) (fun v H => v = .int .i64 0 ∧ ∃ e : Db, e.Ok g 0 1 ∧ e.b = b ∧ e.cap = cap ∧ e.asked = asked ∧ e.done = done ∧ e.pv = pv ∧ e.wv = wv ∧ e.tab = tab ∧ (∀ x ∈ R, x ∈ e.D) ∧ H = e.H g 0) := by
 have hiv := hg.inv 0
 have hrl : (dX g.rom).ram.length ≤ 200000 := by have := aAU g.rom; omega
 refine dO_ func7 hst ?_
 refine A_8 ?_
 refine ZAY ?_
 refine ZDR ?_
 refine RX (cB (F := [(b, blk [.int .i64 cap, c1, c2, c3, c4, c5, c6, pv, wv, .int .u32 asked, .int .u64 done, tab] 79)]) (A := [(ob, blk (g.rom.map U_) 5)]) (G := GP ++ R) K_ rfl (fun w h1 _ => aNI ob g.rom hg.len hg.byts hg.err g.pa g.plan.length g.pc _ w h1)) rfl ?_
 rintro _ _ ⟨_, ⟨q, hob, hq, rfl, rfl⟩, rfl⟩
 rw [cg, bw]
 refine A_15 ?_
 refine RZ (xS_ (l' := [.int .i64 cap, .pointer none, c2, c3, c4, c5, c6, pv, wv, .int .u32 asked, .int .u64 done, tab]) 0) rfl (ZCR ?_)
 refine RZ (xS_ (l' := [.int .i64 cap, .pointer none, .pointer none, c3, c4, c5, c6, pv, wv, .int .u32 asked, .int .u64 done, tab]) 0) rfl (ZCR ?_)
 refine RZ (xS_ (l' := [.int .i64 cap, .pointer none, .pointer none, .int .u64 0, c4, c5, c6, pv, wv, .int .u32 asked, .int .u64 done, tab]) 0) rfl (ZCR ?_)
 refine RZ (xS_ (l' := [.int .i64 cap, .pointer none, .pointer none, .int .u64 0, c4, .pointer none, c6, pv, wv, .int .u32 asked, .int .u64 done, tab]) 0) rfl (ZCR ?_)
 refine RZ (xS_ (l' := [.int .i64 cap, .pointer none, .pointer none, .int .u64 0, c4, .pointer none, .map none, pv, wv, .int .u32 asked, .int .u64 done, tab]) 0) rfl (ZAB ?_)
 refine ZBx ?_
 refine ZAY ?_
 refine A_8 ?_
 refine RX (dE K_ rfl (wQ_ (Hs.new_fn 32))) rfl ?_
 rintro _ _ ⟨G0, ⟨b0, rfl, hH38⟩, rfl⟩
 refine cE (H' := (b, blk [.int .i64 cap, .pointer none, .pointer none, .int .u64 0, c4, .pointer none, .map none, pv, wv, .int .u32 asked, .int .u64 done, tab] 79) :: (hM q (dX g.rom) ++ (G0 ++ (GP ++ R)))) (fun _ h => St.fl [G0, [(b, blk [.int .i64 cap, .pointer none, .pointer none, .int .u64 0, c4, .pointer none, .map none, pv, wv, .int .u32 asked, .int .u64 done, tab] 79)], hM q (dX g.rom), GP ++ R] [1, 2, 0, 3] rfl h) ?_
 refine ZAn ?_
 refine RZ (xS_ (l' := [.int .i64 cap, (pM q), .pointer none, .int .u64 0, c4, .pointer none, .map none, pv, wv, .int .u32 asked, .int .u64 done, tab]) 0) rfl (ZCR ?_)
 refine RZ (xS_ (l' := [.int .i64 cap, (pM q), P_ b0, .int .u64 0, c4, .pointer none, .map none, pv, wv, .int .u32 asked, .int .u64 done, tab]) 0) rfl (ZAB ?_)
 refine ZBx ?_
 refine RX (cB (F := [(b, blk [.int .i64 cap, (pM q), P_ b0, .int .u64 0, c4, .pointer none, .map none, pv, wv, .int .u32 asked, .int .u64 done, tab] 79)]) (A := hM q (dX g.rom)) (G := G0 ++ (GP ++ R)) K_ rfl (wA_ (aGh q (dX g.rom) hiv.wf hiv.rg hrl _))) rfl ?_
 rintro _ _ ⟨_, ⟨b1, c0, sp0, rfl, hc0, rfl⟩, rfl⟩
 refine cE (H' := (b, blk [.int .i64 cap, (pM q), P_ b0, .int .u64 0, c4, .pointer none, .map none, pv, wv, .int .u32 asked, .int .u64 done, tab] 79) :: (hM q (dX g.rom) ++ (G0 ++ ((b1, blk ((g.enc 0).map U_ ++ sp0) 5) :: (GP ++ R))))) (fun _ h => St.fl [[(b, blk [.int .i64 cap, (pM q), P_ b0, .int .u64 0, c4, .pointer none, .map none, pv, wv, .int .u32 asked, .int .u64 done, tab] 79)], [(b1, blk ((g.enc 0).map U_ ++ sp0) 5)], hM q (dX g.rom), G0, GP ++ R] [0, 2, 3, 1, 4] rfl h) ?_
 refine ZAn ?_
 refine RZ (xS_ (l' := [.int .i64 cap, (pM q), P_ b0, .int .u64 0, (.slice (Q_ b1) (g.enc 0).length c0), .pointer none, .map none, pv, wv, .int .u32 asked, .int .u64 done, tab]) 0) rfl (ZAB ?_)
 refine A_9 ?_
 refine RX (dE K_ rfl (wQ_ (Tm.new_fn cap))) rfl ?_
 rintro _ _ ⟨_, ⟨b2, rfl, rfl⟩, rfl⟩
 rw [cg, bw]
 refine RX (aCW .u64) rfl ?_
 rintro _ _ ⟨b3, rfl, rfl⟩
 refine cE (H' := (b, blk [.int .i64 cap, (pM q), P_ b0, .int .u64 0, (.slice (Q_ b1) (g.enc 0).length c0), .pointer none, .map none, pv, wv, .int .u32 asked, .int .u64 done, tab] 79) :: (b3, dG .u64 [] 0) :: (hM q (dX g.rom) ++ (G0 ++ ((b2, blk [.slice none 0 0, .int .i64 (capT cap)] 155) :: (b1, blk ((g.enc 0).map U_ ++ sp0) 5) :: (GP ++ R))))) (fun _ h => St.fl [[(b3, _)], [(b2, blk [.slice none 0 0, .int .i64 (capT cap)] 155)], [(b, blk [.int .i64 cap, (pM q), P_ b0, .int .u64 0, (.slice (Q_ b1) (g.enc 0).length c0), .pointer none, .map none, pv, wv, .int .u32 asked, .int .u64 done, tab] 79)], hM q (dX g.rom), G0, (b1, blk ((g.enc 0).map U_ ++ sp0) 5) :: (GP ++ R)] [2, 0, 3, 4, 1, 5] rfl h) ?_
 refine ZAn ?_
 refine RZ (xS_ (l' := [.int .i64 cap, (pM q), P_ b0, .int .u64 0, (.slice (Q_ b1) (g.enc 0).length c0), P_ b2, .map none, pv, wv, .int .u32 asked, .int .u64 done, tab]) 0) rfl (ZCR ?_)
 refine RZ (xS_ (l' := [.int .i64 cap, (pM q), P_ b0, .int .u64 0, (.slice (Q_ b1) (g.enc 0).length c0), P_ b2, .map (some b3), pv, wv, .int .u32 asked, .int .u64 done, tab]) 0) rfl (ZCR ?_)
 have hE0 : (⟨b, b0, b2, b3, b1, c0, sp0, cap, asked, done, q, (dX g.rom), List.replicate 32 Hs.r0, G0, [], [(b2, blk [.slice none 0 0, .int .i64 (capT cap)] 155)], [], 0, pv, wv, tab, (b1, blk ((g.enc 0).map U_ ++ sp0) 5) :: (GP ++ R)⟩ : Db).Ok g 0 0 := ⟨ax _, hq, EqA.refl _, hH38, Hs.RingOk.start 32 (by rw [ca]), aCB (Tm.LJ.start b2 (capT cap)) (fun _ h => y_c1), (fun _ h => y_c1), ⟨.head _, hc0⟩, oZ.start g _, rfl, GP, hP, fun x hx => .tail _ (mL_ _ hx)⟩
 refine ZAn ?_
 refine RX (dB K_ rfl (wV_ (aFH (⟨b, b0, b2, b3, b1, c0, sp0, cap, asked, done, q, (dX g.rom), List.replicate 32 Hs.r0, G0, [], [(b2, blk [.slice none 0 0, .int .i64 (capT cap)] 155)], [], 0, pv, wv, tab, (b1, blk ((g.enc 0).map U_ ++ sp0) 5) :: (GP ++ R)⟩ : Db) g hg 0 y_b hE0))) rfl ?_
 rintro _ _ ⟨rfl, e, hE, hT, hdn, rfl⟩
 refine ZB2 ?_
 exact EV rfl sR_ ⟨rfl, e, hE, hT.b, hT.cap, hT.asked, hdn, hT.pv, hT.wv, hT.tab, fun x hx => hT.D x (.tail _ (mR_ _ hx)), rfl⟩
def aHe (d : Db) (g : Gx) (hg : g.Ok) (k n : Nat) (hd : d.Ok g k n) (hk : k < n) (hn : n < 1000000) (hdn0 : 0 ≤ d.done ∧ d.done < 1000000000000000) (w : AI) (hst : St w ((d.H g k).map (·.1)) (d.H g k) w) : aC prog 25 [P_ d.b] w ((d.H g k).map (·.1)) (fun v H => ∃ (e : Db) (va : AH) (GA : aB), e.Ok g (k + 1) (max n (k + 2)) ∧ d.To e ∧ e.done = d.done + 1 ∧ v = va ∧ Vec 52 3 va (g.m (k + 1)).acc.length (aE cAc (g.m (k + 1)).acc) GA ∧ (∀ x ∈ GA, x ∈ e.D) ∧ H = e.H g (k + 1)) := by
 obtain ⟨b, hb, lb, mp, fa, fc, fs, cap, asked, done, q, m, ring, GH, ms, GL, l, c, pv, wv, tab, D⟩ := d
 obtain ⟨hle, hq, hm, hh, hrg, hL, hpk, hfi, hpa, htm, hpl⟩ := hd
 dsimp only at hle hq hm hh hrg hL hpk hfi hpa htm hpl
 refine ZCs fun hst hml => ?_
 dsimp only at hdn0
 obtain ⟨GP, hP, hGP⟩ := hpl
 have hiv := hm.inv (hg.inv k)
 have hpcr := hiv.rg.pc
 have hse1 : (stepM g.plan m).1 = (stepM g.plan (g.m k)).1 := by rw [hm.step]
 have hse2 : (stepM g.plan m).2 = (g.m (k + 1)) := by rw [hm.step]; rfl
 have hbk : (if 32768 ≤ m.cpu.r.pc then 0 else bankB m.cpu.r.pc m.bk) = (g.st k).bank := by
  show aBs m m.cpu.r.pc = _
  rw [hm.bank, hm.cpu]; rfl
 refine dO_ func25 hst ?_
 refine ZBx ?_
 refine DR [4, 5, 6, 7, 8, 9, 10] (pln [0, 2, 4, 6, 8, 10, 12, 14, 17, 18, 20, 23, 24]) ?_
 refine A_8 ?_
 refine DZ rfl (aZ K_ rfl (fun w hw => zR q.A q.va m hiv.wf.ln w (aA (b := q.A.mb) (l := cMm q.A q.va m) (.tail _ (.tail _ (mL_ _ (.tail _ (.head _))))) w hw))) rfl y_c (ZBR ?_)
 refine DY rfl (wB rfl rfl rfl rfl rfl) rfl (DZ rfl (aZ K_ rfl (fun w hw => (by have h9 := aLT q.A q.va m hiv.wf w (aA (b := q.A.mb) (l := cMm q.A q.va m) (.tail _ (.tail _ (mL_ _ (.tail _ (.head _))))) w hw) m.cpu.r.pc hpcr; rw [hbk] at h9; exact h9))) rfl n_h (A_8 ?_))
 refine RX (cB (F := [(b, blk (cDb cap (pM q) (P_ hb) k (.slice (Q_ fa) (g.enc 0).length fc) lb mp pv wv asked done tab) 79), (mp, dG .u64 (l) (c))]) (A := hM q m) (G := (GH ++ (GL ++ D))) K_ rfl (fun w h1 h2 => (by have h9 := aHO q g.pa g.pc g.plan hq hg.chg hg.few m hiv _ w h1 (hP.els h2 (fun x hx => mR_ _ ((fun x hx => mR_ _ (mR_ _ (mR_ _ (hGP x hx)))) x hx))) (hP.offB h2 (fun x hx => mR_ _ (mR_ _ (mR_ _ (hGP x hx))))); rw [hse1, hse2] at h9; exact h9))) rfl ?_
 rintro _ _ ⟨_, ⟨oT, va, G0, hq2, rfl, hV, rfl⟩, rfl⟩
 obtain ⟨aa, ac, rfl⟩ := hV.slice
 refine ZBB ?_
 refine ZAt fun b0 => ?_
 refine RZ (xS_ (l' := cDd (stepM g.plan (g.m k)).1) 0) rfl (ZAB ?_)
 refine ZBB ?_
 refine eP (L' := (b, blk (cDb cap (pM q) (P_ hb) k (.slice (Q_ fa) (g.enc 0).length fc) lb mp pv wv asked done tab) 79) :: (mp, dG .u64 (l) (c)) :: (b0, blk (cDd (stepM g.plan (g.m k)).1) 46) :: (GH ++ (hM (⟨q.A, q.tb, oT, .slice aa (g.m (k + 1)).acc.length ac⟩ : MA) (g.m (k + 1)) ++ (GL ++ (G0 ++ D))))) (fun _ h => by rw [As_] at h; exact St.fl [[(b0, blk (cDd (stepM g.plan (g.m k)).1) 46)], [(b, blk (cDb cap (pM q) (P_ hb) k (.slice (Q_ fa) (g.enc 0).length fc) lb mp pv wv asked done tab) 79), (mp, dG .u64 (l) (c))], G0, hM (⟨q.A, q.tb, oT, .slice aa (g.m (k + 1)).acc.length ac⟩ : MA) (g.m (k + 1)), GH, GL, D] [1, 0, 4, 3, 5, 2, 6] rfl h) ?_
 refine DR [4, 5, 6, 7, 8, 9, 10, 11, 12, 13, 14, 15, 16] (pln [0, 2, 4, 6, 8, 10, 12, 14, 16, 18, 20, 22, 24, 26, 29, 30, 32, 35]) ?_
 refine A_9 ?_
 refine ZDZ ?_
 refine ZB6 ?_
 refine DZ rfl (aZ K_ rfl (fun w hw => zR q.A (.slice aa (g.m (k + 1)).acc.length ac) (g.m (k + 1)) (hg.inv (k + 1)).wf.ln w (aA (b := q.A.mb) (l := cMm q.A (.slice aa (g.m (k + 1)).acc.length ac) (g.m (k + 1))) (.tail _ (.tail _ (.tail _ (mR_ _ (mL_ _ (.tail _ (.head _))))))) w hw))) rfl y_c (ZBR ?_)
 refine DY rfl (wB rfl rfl rfl rfl rfl) rfl (DX rfl (cB (F := [(b, blk (cDb cap (pM q) (P_ hb) k (.slice (Q_ fa) (g.enc 0).length fc) lb mp pv wv asked done tab) 79), (mp, dG .u64 (l) (c)), (b0, blk (cDd (stepM g.plan (g.m k)).1) 46)]) (A := GH) (G := hM (⟨q.A, q.tb, oT, .slice aa (g.m (k + 1)).acc.length ac⟩ : MA) (g.m (k + 1)) ++ (GL ++ (G0 ++ D))) K_ rfl (fun w h1 _ => Hs.note_fn hb 32 k (Hs.callsL (g.sts k)) ring y_b y_b o_m (Hs.callsL_len _) GH w hh h1 (g.st k) (hg.st k))) rfl n_h ?_)
 rintro _ _ ⟨GH2, ⟨rfl, hh2⟩, rfl⟩
 rw [← Hs.callsL_snoc, ← Gx.sts_snoc] at hh2
 refine ZDR ?_
 refine RW (v := (.int .u64 ((k + 1 : Nat) : Int))) rfl rfl (cA_ _ ((iT o_m o_m).trans o_m)) (ZAn ?_)
 refine RZ (xS_ (l' := cDb cap (pM q) (P_ hb) (k + 1) (.slice (Q_ fa) (g.enc 0).length fc) lb mp pv wv asked done tab) 0) rfl (ZAB ?_)
 refine ZB2 ?_
 refine cE (H' := (b, blk (cDb cap (pM q) (P_ hb) (k + 1) (.slice (Q_ fa) (g.enc 0).length fc) lb mp pv wv asked done tab) 79) :: ((mp, dG .u64 (l) (c)) :: (b0, blk (cDd (stepM g.plan (g.m k)).1) 46) :: (GH2 ++ (hM (⟨q.A, q.tb, oT, .slice aa (g.m (k + 1)).acc.length ac⟩ : MA) (g.m (k + 1)) ++ (GL ++ (G0 ++ D)))))) (fun _ h => h) ?_
 refine RX (cB (F := []) (A := [(b, blk (cDb cap (pM q) (P_ hb) (k + 1) (.slice (Q_ fa) (g.enc 0).length fc) lb mp pv wv asked done tab) 79)]) (G := ((mp, dG .u64 (l) (c)) :: (b0, blk (cDd (stepM g.plan (g.m k)).1) 46) :: (GH2 ++ (hM (⟨q.A, q.tb, oT, .slice aa (g.m (k + 1)).acc.length ac⟩ : MA) (g.m (k + 1)) ++ (GL ++ (G0 ++ D)))))) K_ rfl (wA_ (aOW b 10 _ _ done (done + 1) rfl (iT o_m o_m)))) rfl (ZC6 ?_)
 refine ZAn ?_
 refine eP (L' := (b, blk (cDb cap (pM q) (P_ hb) (k + 1) (.slice (Q_ fa) (g.enc 0).length fc) lb mp pv wv asked (done + 1) tab) 79) :: (mp, dG .u64 (l) (c)) :: (hM (⟨q.A, q.tb, oT, .slice aa (g.m (k + 1)).acc.length ac⟩ : MA) (g.m (k + 1)) ++ (GH2 ++ (GL ++ ((b0, blk (cDd (stepM g.plan (g.m k)).1) 46) :: (G0 ++ D)))))) (fun _ h => St.fl [[(b, blk (cDb cap (pM q) (P_ hb) (k + 1) (.slice (Q_ fa) (g.enc 0).length fc) lb mp pv wv asked (done + 1) tab) 79), (mp, dG .u64 (l) (c))], [(b0, blk (cDd (stepM g.plan (g.m k)).1) 46)], GH2, hM (⟨q.A, q.tb, oT, .slice aa (g.m (k + 1)).acc.length ac⟩ : MA) (g.m (k + 1)), GL, G0 ++ D] [0, 3, 2, 4, 1, 5] rfl h) ?_
 have hrg2 := hrg.step y_b y_b (g.st k)
 rw [Gx.sts_len, ← Gx.sts_snoc] at hrg2
 have hE0 : (⟨b, hb, lb, mp, fa, fc, fs, cap, asked, done + 1, (⟨q.A, q.tb, oT, .slice aa (g.m (k + 1)).acc.length ac⟩ : MA), (g.m (k + 1)), (ring.set (k % 32) (Hs.recOf (g.st k))), GH2, ms, GL, l, c, pv, wv, tab, ((b0, blk (cDd (stepM g.plan (g.m k)).1) 46) :: (G0 ++ D))⟩ : Db).Ok g (k + 1) n := ⟨y_B, hq2, EqA.refl _, hh2, hrg2, aCB hL (fun x hx => .tail _ (mR_ _ hx)), hpk, ⟨.tail _ (mR_ _ hfi.1), hfi.2⟩, hpa.more (fun x hx => .tail _ (mR_ _ hx)), htm, ⟨GP, hP, fun x hx => .tail _ (mR_ _ (hGP x hx))⟩⟩
 have hT0 : Db.To ⟨b, hb, lb, mp, fa, fc, fs, cap, asked, done, q, m, ring, GH, ms, GL, l, c, pv, wv, tab, D⟩ (⟨b, hb, lb, mp, fa, fc, fs, cap, asked, done + 1, (⟨q.A, q.tb, oT, .slice aa (g.m (k + 1)).acc.length ac⟩ : MA), (g.m (k + 1)), (ring.set (k % 32) (Hs.recOf (g.st k))), GH2, ms, GL, l, c, pv, wv, tab, ((b0, blk (cDd (stepM g.plan (g.m k)).1) 46) :: (G0 ++ D))⟩ : Db) := ⟨rfl, rfl, rfl, rfl, rfl, rfl, rfl, (fun x hx => .tail _ (mR_ _ hx))⟩
 rcases dh (k + 1) n with hlt | hge
 rotate_left
 obtain rfl : n = k + 1 := by omega
 rotate_left
 ·refine ZAn ?_
  refine RZ (dB K_ rfl (wV_ (aMh (⟨b, hb, lb, mp, fa, fc, fs, cap, asked, done + 1, (⟨q.A, q.tb, oT, .slice aa (g.m (k + 1)).acc.length ac⟩ : MA), (g.m (k + 1)), (ring.set (k % 32) (Hs.recOf (g.st k))), GH2, ms, GL, l, c, pv, wv, tab, ((b0, blk (cDd (stepM g.plan (g.m k)).1) 46) :: (G0 ++ D))⟩ : Db) g hg (k + 1) n hE0 hlt))) rfl (ZDR ?_)
  exact EV rfl sR_ ⟨(⟨b, hb, lb, mp, fa, fc, fs, cap, asked, done + 1, (⟨q.A, q.tb, oT, .slice aa (g.m (k + 1)).acc.length ac⟩ : MA), (g.m (k + 1)), (ring.set (k % 32) (Hs.recOf (g.st k))), GH2, ms, GL, l, c, pv, wv, tab, ((b0, blk (cDd (stepM g.plan (g.m k)).1) 46) :: (G0 ++ D))⟩ : Db), _, G0, (by rw [Nat.max_eq_left o_m]; exact hE0), hT0, rfl, rfl, hV, fun x hx => .tail _ (mL_ _ hx), rfl⟩
 refine ZAn ?_
 refine RX (dB K_ rfl (wV_ (aFH (⟨b, hb, lb, mp, fa, fc, fs, cap, asked, done + 1, (⟨q.A, q.tb, oT, .slice aa (g.m (k + 1)).acc.length ac⟩ : MA), (g.m (k + 1)), (ring.set (k % 32) (Hs.recOf (g.st k))), GH2, ms, GL, l, c, pv, wv, tab, ((b0, blk (cDd (stepM g.plan (g.m k)).1) 46) :: (G0 ++ D))⟩ : Db) g hg (k + 1) o_m hE0))) rfl ?_
 rintro _ _ ⟨rfl, e, hE, hT, hdn, rfl⟩
 refine ZDR ?_
 exact EV rfl sR_ ⟨e, _, G0, (by rw [Nat.max_eq_right o_m]; exact hE), hT0.trans hT, hdn, rfl, hV, fun x hx => hT.D x (.tail _ (mL_ _ hx)), rfl⟩
def aNi (d : Db) (g : Gx) (hg : g.Ok) (k n : Nat) (hf : d.Fine g k n) (N : Nat) (hN : N < 18446744073709551616) (w : AI) (hst : St w ((d.H g k).map (·.1)) (d.H g k) w) : aC prog 9 [P_ d.b, .int .u64 N] w ((d.H g k).map (·.1)) (fun v H => v = .tuple #[.agg (cSt ((k + (min N 5000) : Nat) : Int) 0 0 false).toArray, .int .i64 0] ∧ ∃ e, aSN g d e (k + (min N 5000)) (max n (k + (min N 5000) + 1)) (((min N 5000) : Nat) : Int) H) := by
 obtain ⟨hd, hk, hn, hdn⟩ := hf
 refine dO_ func9 hst ?_
 refine ZAn ?_
 refine ZAt fun b0 => ?_
 refine ZB2 ?_
 refine RLv K_ (fun w hw => aLF d.b d.q.A.mb w (aT (b := d.b) (l := Db.cs d g (k)) (.tail _ (.head _)) rfl w hw)) ?_
 refine A_8 ?_
 refine RW (v := (.int .u64 ((min N 5000 : Nat) : Int))) (kL rfl rfl) rfl (cA_ _ o_m) (ZBB ?_)
 refine bG (σ := Db × Nat) [12, 13, 14, 15, 16] (fun s => [(12, .int .u64 s.2)]) (fun s => (b0, blk (cSt 0 0 0 false) 33) :: s.1.H g (k + s.2)) (fun s => s.1.Ok g (k + s.2) (max n (k + s.2 + 1)) ∧ d.To s.1 ∧ s.1.done = d.done + s.2 ∧ s.2 ≤ min N 5000) (fun s => min N 5000 - s.2) (d, 0) ?_ ?_ ?_ ?_
 ·exact ⟨by rw [Nat.max_eq_left (by show k + 0 + 1 ≤ n; omega)]; exact hd, .refl d, by show d.done = d.done + 0; omega, aj _⟩
 ·exact .cons rfl .nil
 ·exact fun _ h => h
 rintro ⟨e, i⟩ y4 ⟨he, hT, hdn3, hi⟩
 dsimp only at he hT hdn3 hi ⊢
 refine ZBx ?_
 refine KC (fun q0 z0 => ?_) (fun q0 z0 => ?_)
 ·refine ZBx ?_
  refine RX (aS (F := [(b0, blk (cSt 0 0 0 false) 33)]) (A := Db.H e g (k + i)) K_ rfl (fun w hw => (by have h9 := aHe e g hg (k + i) (max n (k + i + 1)) he o_m o_m ⟨y_B, y_B⟩ w (St.lentV hw); rw [hT.b] at h9; exact h9))) rfl ?_
  rintro _ _ ⟨_, ⟨e2, va, GA, he2, hT0, hd2, rfl, hV, hGA, rfl⟩, rfl⟩
  rw [cg, bw]
  refine ZAn ?_
  refine RW (v := (.int .u64 ((i + 1 : Nat) : Int))) rfl rfl (cA_ _ ((iT o_m o_m).trans o_m)) (ZAn ?_)
  exact ⟨(e2, i + 1), ⟨(show max (max n (k + i + 1)) (k + i + 2) = max n (k + (i + 1) + 1) by omega) ▸ he2, hT.trans hT0, by show e2.done = d.done + ((i + 1 : Nat) : Int); omega, by show i + 1 ≤ min N 5000; omega⟩, by show min N 5000 - (i + 1) < min N 5000 - i; omega, .cons rfl .nil, a_g, fun _ h => h⟩
 refine ZB6 ?_
 refine RZ (aZ K_ rfl (fun w hw => (by have h9 := aMV e.b ((k + i : Nat) : Int) 0 w (aT (b := e.b) (l := Db.cs e g (k + i)) (.tail _ (.head _)) rfl w hw); rw [hT.b] at h9; exact h9))) rfl (ZAn ?_)
 refine RZ (xS_ (l' := cSt ((k + i : Nat) : Int) 0 0 false) 0) rfl ?_
 rw [ap]
 refine ZBB ?_
 obtain rfl : i = min N 5000 := by omega
 exact iN (fun w hw => bC rfl rfl rfl (aA (b := b0) (l := cSt ((k + min N 5000 : Nat) : Int) 0 0 false) (.head _) w hw) rfl) (.cons _ sR_) ⟨rfl, e, he, hT, hdn3, rfl⟩
def gV (n : Int) (ws : List (List UInt8)) (a : AC) (c : Nat) (hl : ws.length < 1000000) (w : AI) (hE : Els w cW a ws) :
  aC prog 38 [.int .i64 n, .slice a ws.length c] w [] (V_ (.string (bs (cG n ws)))) := by
 refine dR_ func38 ?_
 refine A_9 ?_
 refine KL (fun h1 h1n => ?_) (fun h1 h1n => ?_)
 ·refine A_12 ?_
  exact E0 rfl ⟨rfl, cA_ (fun l => Value.string (bs l)) (aGP y_a).symm⟩
 refine A_2 ?_
 refine RY l_n rfl (A_3 ?_)
 refine KC (fun h2 h2n => ?_) (fun h2 h2n => ?_)
 ·refine A_5 ?_
  exact E0 rfl ⟨rfl, cA_ (fun l => Value.string (bs l)) (aGP y_a).symm⟩
 refine A_2 ?_
 obtain ⟨m, rfl⟩ : ∃ m : Nat, n = m := ⟨n.toNat, y_dB⟩
 obtain ⟨s, hs⟩ : ∃ s, ws[m]? = some s := ⟨_, tE y_a⟩
 obtain ⟨b9, o9, rfl, hr9⟩ := hE.row (i := m) y_a
 refine A_3 ?_
 refine RY (bE (s := 1) m rfl rfl rfl rfl y_a) rfl (RZ (aH rfl rfl (fun w hw => (aR hr9 y_v w hw).at aQ7 hs 0 rfl)) rfl (A_3 ?_))
 exact E0 rfl ⟨rfl, cA_ (fun l => Value.string (bs l)) (aOt rfl hs).symm⟩
def lG (n : Int) (w : AI) :
  aC prog 35 [.int .i64 n] w [] (V_ (.string (bs (cG n pB)))) := by
 refine dR_ func35 ?_
 refine A_7 ?_
 refine RX (bX (z := [.string (bs [])]) (l := [.string (bs [98]), .string (bs [99]), .string (bs [100]), .string (bs [101]), .string (bs [104]), .string (bs [108]), .string (bs [40, 104, 108, 41]), .string (bs [97])]) (ps := [(0, .string (bs [98])), (1, .string (bs [99])), (2, .string (bs [100])), (3, .string (bs [101])), (4, .string (bs [104])), (5, .string (bs [108])), (6, .string (bs [40, 104, 108, 41])), (7, .string (bs [97]))]) rfl rfl rfl rfl y_i y_i) rfl ?_
 rintro _ _ ⟨b4, rfl, rfl⟩
 refine RZ (aZ K_ rfl (fun w hw => gV n pB _ _ y_b w (fun _ => ⟨_, 0, rfl, aA m_m w hw⟩))) rfl (A_3 ?_)
 exact E0 rfl ⟨rfl, rfl⟩
def vP (n : Int) (w : AI) :
  aC prog 36 [.int .i64 n] w [] (V_ (.string (bs (cG n rJ)))) := by
 refine dR_ func36 ?_
 refine A_7 ?_
 refine RX (bX (z := [.string (bs [])]) (l := [.string (bs [98, 99]), .string (bs [100, 101]), .string (bs [104, 108]), .string (bs [115, 112]), .string (bs [97, 102])]) (ps := [(0, .string (bs [98, 99])), (1, .string (bs [100, 101])), (2, .string (bs [104, 108])), (3, .string (bs [115, 112])), (4, .string (bs [97, 102]))]) rfl rfl rfl rfl y_i y_i) rfl ?_
 rintro _ _ ⟨b4, rfl, rfl⟩
 refine RZ (aZ K_ rfl (fun w hw => gV n rJ _ _ y_b w (fun _ => ⟨_, 0, rfl, aA m_m w hw⟩))) rfl (A_3 ?_)
 exact E0 rfl ⟨rfl, rfl⟩
def aJC (n : Int) (w : AI) :
  aC prog 63 [.int .i64 n] w [] (V_ (.string (bs (cG n aAO)))) := by
 refine dR_ func63 ?_
 refine A_7 ?_
 refine RX (bX (z := [.string (bs [])]) (l := [.string (bs [40, 98, 99, 41]), .string (bs [40, 100, 101, 41]), .string (bs [40, 104, 108, 43, 41]), .string (bs [40, 104, 108, 45, 41])]) (ps := [(0, .string (bs [40, 98, 99, 41])), (1, .string (bs [40, 100, 101, 41])), (2, .string (bs [40, 104, 108, 43, 41])), (3, .string (bs [40, 104, 108, 45, 41]))]) rfl rfl rfl rfl y_i y_i) rfl ?_
 rintro _ _ ⟨b4, rfl, rfl⟩
 refine RZ (aZ K_ rfl (fun w hw => gV n aAO _ _ y_b w (fun _ => ⟨_, 0, rfl, aA m_m w hw⟩))) rfl (A_3 ?_)
 exact E0 rfl ⟨rfl, rfl⟩
def aGU (n : Int) (w : AI) :
  aC prog 37 [.int .i64 n] w [] (V_ (.string (bs (cG n yV)))) := by
 refine dR_ func37 ?_
 refine A_7 ?_
 refine RX (bX (z := [.string (bs [])]) (l := [.string (bs [97, 100, 100]), .string (bs [97, 100, 99]), .string (bs [115, 117, 98]), .string (bs [115, 98, 99]), .string (bs [97, 110, 100]), .string (bs [120, 111, 114]), .string (bs [111, 114]), .string (bs [99, 112])]) (ps := [(0, .string (bs [97, 100, 100])), (1, .string (bs [97, 100, 99])), (2, .string (bs [115, 117, 98])), (3, .string (bs [115, 98, 99])), (4, .string (bs [97, 110, 100])), (5, .string (bs [120, 111, 114])), (6, .string (bs [111, 114])), (7, .string (bs [99, 112]))]) rfl rfl rfl rfl y_i y_i) rfl ?_
 rintro _ _ ⟨b4, rfl, rfl⟩
 refine RZ (aZ K_ rfl (fun w hw => gV n yV _ _ y_b w (fun _ => ⟨_, 0, rfl, aA m_m w hw⟩))) rfl (A_3 ?_)
 exact E0 rfl ⟨rfl, rfl⟩
def aEP (n : Int) (w : AI) :
  aC prog 64 [.int .i64 n] w [] (V_ (.string (bs (cG n aCd)))) := by
 refine dR_ func64 ?_
 refine A_7 ?_
 refine RX (bX (z := [.string (bs [])]) (l := [.string (bs [48]), .string (bs [49]), .string (bs [50]), .string (bs [51]), .string (bs [52]), .string (bs [53]), .string (bs [54]), .string (bs [55])]) (ps := [(0, .string (bs [48])), (1, .string (bs [49])), (2, .string (bs [50])), (3, .string (bs [51])), (4, .string (bs [52])), (5, .string (bs [53])), (6, .string (bs [54])), (7, .string (bs [55]))]) rfl rfl rfl rfl y_i y_i) rfl ?_
 rintro _ _ ⟨b4, rfl, rfl⟩
 refine RZ (aZ K_ rfl (fun w hw => gV n aCd _ _ y_b w (fun _ => ⟨_, 0, rfl, aA m_m w hw⟩))) rfl (A_3 ?_)
 exact E0 rfl ⟨rfl, rfl⟩
def aJl (n : Int) (h0 : 0 ≤ n) (hn : n < 65536) (many : Nat) (hm : 1 ≤ many) (hm4 : many ≤ 4) (w : AI) :
  aC prog 34 [.int .u16 n, .int .i64 many] w [] (V_ (.string (bs (jH n.toNat many)))) := by
 refine dR_ func34 ?_
 refine A_12 ?_
 refine RW (v := (.int .i64 ((many : Int) - 1))) rfl rfl (cA_ _ (aI o_m o_m)) (A_3 ?_)
 refine bG (σ := Nat × AH × aB) [5, 6, 9, 10, 11, 12, 13, 14, 15, 16, 17, 18, 19, 20, 21] (fun s => [(5, s.2.1), (6, .int .i64 ((many : Int) - 1 - s.1))]) (fun s => s.2.2 ++ []) (fun s => s.1 ≤ many ∧ Vec 5 1 s.2.1 s.1 (((jH n.toNat many).take s.1).map (fun c : UInt8 => Value.int .u8 c.toNat)) s.2.2) (fun s => many - s.1) (0, .slice none 0 0, []) ?_ ?_ ?_ ?_
 ·exact ⟨aj _, .nil⟩
 ·exact .cons rfl (.cons (show Value.int .i64 ((many : Int) - 1) = Value.int .i64 ((many : Int) - 1 - ((0 : Nat) : Int)) from cA_ _ o_m) .nil)
 ·exact fun _ h => h
 rintro ⟨j, v, G⟩ y3 ⟨hj, hV⟩
 dsimp only at hj hV ⊢
 obtain ⟨a5, c5, rfl⟩ := hV.slice
 refine A_6 ?_
 refine KC (fun h1 h1n => ?_) (fun h1 h1n => ?_)
 ·refine A_3 ?_
  refine eP (L' := G) (fun _ h => h.as y_v) ?_
  refine A_4 ?_
  refine RW (v := (.int .i64 (4 * ((many - 1 - j : Nat) : Int)))) rfl rfl (cA_ _ y_dN) (RY (dK rfl rfl o_m) rfl (RW (v := (.int .u16 (((n.toNat / 16 ^ (many - 1 - j) % 16) : Nat) : Int))) rfl rfl (cA_ _ (aP4 h0 hn o_m)) (RY (aFu (n.toNat / 16 ^ (many - 1 - j) % 16) rfl rfl rfl rfl (aPK (gv _ y_b))) rfl ?_)))
  refine RX (bX rfl rfl rfl rfl rfl rfl) rfl ?_
  rintro _ _ ⟨b20, rfl, rfl⟩
  refine RX (iS (A := [(b20, _)]) (G := G) (v := (.slice a5 j c5)) (n := j) (xs := (((jH n.toNat many).take j).map (fun c : UInt8 => Value.int .u8 c.toNat))) (m := 1) (T := 5) (s := 1) (by_ := 1) (ys := [.int .u8 (dig (n.toNat / 16 ^ (many - 1 - j) % 16)).toNat]) rfl rfl rfl rfl hV (fun w hw => .row _ _ _ _ _ rfl (aA (.head _) w hw)) rfl o_m o_m) rfl ?_
  rintro v21 _ ⟨G21, hV21, hn21, rfl⟩
  have hV9 : Vec 5 1 v21 (j + 1) (((jH n.toNat many).take (j + 1)).map (fun c : UInt8 => Value.int .u8 c.toNat)) G21 := hV21.as rfl (by rw [sQ (aMp (show j < many by (try simp only [decide_eq_true_eq, decide_eq_false_iff_not, beq_iff_eq, beq_eq_false_iff_ne, bne_iff_ne, bne_eq_false_iff_eq, ne_eq] at *); omega)), aw]; rfl)
  obtain ⟨a9, c9, rfl⟩ := hV9.slice
  refine A_4 ?_
  refine RW (v := (.int .i64 ((many : Int) - 1 - ((j + 1 : Nat) : Int)))) rfl rfl (cA_ _ y_cg) (A_2 ?_)
  exact ⟨(j + 1, _, G21), ⟨y_dB, hV9⟩, y_dB, .cons rfl (.cons rfl .nil), a_g, fun _ h => h.sub (sR_.append (List.nil_sublist _))⟩
 refine A_2 ?_
 obtain rfl : many = j := by (try simp only [decide_eq_true_eq, decide_eq_false_iff_not, beq_iff_eq, beq_eq_false_iff_ne, bne_iff_ne, bne_eq_false_iff_eq, ne_eq] at *); omega
 rw [cw (by rw [jU]; omega)] at hV
 obtain ⟨b6, c6, s6, e6, rfl, _, _, _⟩ := hV.full o_m
 cases e6
 refine A_2 ?_
 refine RZ (aSw (l := (jH n.toNat many)) rfl rfl rfl (jU _ _) (fun w hw => (aA (.head _) w hw).left)) rfl (A_3 ?_)
 exact E0 rfl ⟨rfl, rfl⟩
def aAd (word more : List UInt8) (cond : Int) (hw1 : word.length ≤ 100) (hm1 : more.length ≤ 100) (w : AI) :
  aC prog 39 [.string (bs word), .int .i64 cond, .string (bs more)] w [] (V_ (.string (bs (whenL word cond more)))) := by
 have q1 := aLs cond
 refine dR_ func39 ?_
 refine A_10 ?_
 refine KC (fun h1 h1n => ?_) (fun h1 h1n => ?_)
 ·refine A_4 ?_
  refine RX (bX (z := [.string (bs [])]) (l := [.string (bs [110, 122]), .string (bs [122]), .string (bs [110, 99]), .string (bs [99])]) (ps := [(0, .string (bs [110, 122])), (1, .string (bs [122])), (2, .string (bs [110, 99])), (3, .string (bs [99]))]) rfl rfl rfl rfl y_i y_i) rfl ?_
  rintro _ _ ⟨b11, rfl, rfl⟩
  refine RZ (aZ K_ rfl (fun w hw => gV cond rS _ _ y_b w (fun _ => ⟨_, 0, rfl, aA m_m w hw⟩))) rfl (RY (aN rfl rfl y_f) rfl (RY (aN rfl rfl y_f) rfl (A_5 ?_)))
  refine RY (qQ rfl rfl) rfl (A_1 ?_)
  refine KC (fun h2 h2n => ?_) (fun h2 h2n => ?_)
  ·refine A_2 ?_
   refine RY (aN rfl rfl y_f) rfl (A_6 ?_)
   refine RY (qQ rfl rfl) rfl (A_1 ?_)
   refine KC (fun h3 h3n => ?_) (fun h3 h3n => ?_)
   ·refine A_3 ?_
    refine RY (aN rfl rfl y_f) rfl (RY (aN rfl rfl y_f) rfl (A_8 ?_))
    exact E0 rfl ⟨rfl, cA_ (fun l => Value.string (bs l)) y_ci⟩
   refine A_7 ?_
   exact E0 rfl ⟨rfl, cA_ (fun l => Value.string (bs l)) y_ci⟩
  refine A_5 ?_
  refine RY (qQ rfl rfl) rfl (A_1 ?_)
  refine KC (fun h4 h4n => ?_) (fun h4 h4n => ?_)
  ·refine A_3 ?_
   refine RY (aN rfl rfl y_f) rfl (RY (aN rfl rfl y_f) rfl (A_8 ?_))
   exact E0 rfl ⟨rfl, cA_ (fun l => Value.string (bs l)) y_ci⟩
  refine A_7 ?_
  exact E0 rfl ⟨rfl, cA_ (fun l => Value.string (bs l)) y_ci⟩
 refine A_5 ?_
 refine RY (qQ rfl rfl) rfl (A_1 ?_)
 refine KC (fun h5 h5n => ?_) (fun h5 h5n => ?_)
 ·refine A_3 ?_
  refine RY (aN rfl rfl y_f) rfl (RY (aN rfl rfl y_f) rfl (A_8 ?_))
  exact E0 rfl ⟨rfl, cA_ (fun l => Value.string (bs l)) y_ci⟩
 refine A_7 ?_
 exact E0 rfl ⟨rfl, cA_ (fun l => Value.string (bs l)) y_ci⟩
def aL1 (k : Int) (w : AI) :
  aC prog 65 [.int .i64 k] w [] (V_ (.string (bs (aloneL k)))) := by
 refine dR_ func65 ?_
 refine A_15 ?_
 refine KC (fun h1 h1n => ?_) (fun h1 h1n => ?_)
 ·refine A_5 ?_
  exact E0 rfl ⟨rfl, cA_ (fun l => Value.string (bs l)) y_z⟩
 refine A_5 ?_
 refine KC (fun h2 h2n => ?_) (fun h2 h2n => ?_)
 ·refine A_5 ?_
  exact E0 rfl ⟨rfl, cA_ (fun l => Value.string (bs l)) y_z⟩
 refine A_5 ?_
 refine KC (fun h3 h3n => ?_) (fun h3 h3n => ?_)
 ·refine A_5 ?_
  exact E0 rfl ⟨rfl, cA_ (fun l => Value.string (bs l)) y_z⟩
 refine A_5 ?_
 refine KC (fun h4 h4n => ?_) (fun h4 h4n => ?_)
 ·refine A_5 ?_
  exact E0 rfl ⟨rfl, cA_ (fun l => Value.string (bs l)) y_z⟩
 refine A_5 ?_
 refine KC (fun h5 h5n => ?_) (fun h5 h5n => ?_)
 ·refine A_5 ?_
  exact E0 rfl ⟨rfl, cA_ (fun l => Value.string (bs l)) y_z⟩
 refine A_6 ?_
 refine KC (fun h6 h6n => ?_) (fun h6 h6n => ?_)
 ·refine A_1 ?_
  refine fK true rfl h6 ?_
  refine A_3 ?_
  refine RW (v := (.int .i64 (k - 19))) rfl rfl (cA_ _ (aI y_a y_a)) (RX (bX (z := [.string (bs [])]) (l := [.string (bs [100, 97, 97]), .string (bs [99, 112, 108]), .string (bs [115, 99, 102]), .string (bs [99, 99, 102])]) (ps := [(0, .string (bs [100, 97, 97])), (1, .string (bs [99, 112, 108])), (2, .string (bs [115, 99, 102])), (3, .string (bs [99, 99, 102]))]) rfl rfl rfl rfl y_i y_i) rfl ?_)
  rintro _ _ ⟨b21, rfl, rfl⟩
  refine RZ (aZ K_ rfl (fun w hw => gV (k - 19) vY _ _ y_b w (fun _ => ⟨_, 0, rfl, aA m_m w hw⟩))) rfl (A_3 ?_)
  exact E0 rfl ⟨rfl, cA_ (fun l => Value.string (bs l)) y_z⟩
 refine A_5 ?_
 refine KC (fun h7 h7n => ?_) (fun h7 h7n => ?_)
 ·refine A_1 ?_
  refine fK true rfl h7 ?_
  refine A_3 ?_
  refine RW (v := (.int .i64 (k - 19))) rfl rfl (cA_ _ (aI y_a y_a)) (RX (bX (z := [.string (bs [])]) (l := [.string (bs [100, 97, 97]), .string (bs [99, 112, 108]), .string (bs [115, 99, 102]), .string (bs [99, 99, 102])]) (ps := [(0, .string (bs [100, 97, 97])), (1, .string (bs [99, 112, 108])), (2, .string (bs [115, 99, 102])), (3, .string (bs [99, 99, 102]))]) rfl rfl rfl rfl y_i y_i) rfl ?_)
  rintro _ _ ⟨b21, rfl, rfl⟩
  refine RZ (aZ K_ rfl (fun w hw => gV (k - 19) vY _ _ y_b w (fun _ => ⟨_, 0, rfl, aA m_m w hw⟩))) rfl (A_3 ?_)
  exact E0 rfl ⟨rfl, cA_ (fun l => Value.string (bs l)) y_z⟩
 refine A_5 ?_
 refine KC (fun h8 h8n => ?_) (fun h8 h8n => ?_)
 ·refine A_1 ?_
  refine fK true rfl h8 ?_
  refine A_3 ?_
  refine RW (v := (.int .i64 (k - 19))) rfl rfl (cA_ _ (aI y_a y_a)) (RX (bX (z := [.string (bs [])]) (l := [.string (bs [100, 97, 97]), .string (bs [99, 112, 108]), .string (bs [115, 99, 102]), .string (bs [99, 99, 102])]) (ps := [(0, .string (bs [100, 97, 97])), (1, .string (bs [99, 112, 108])), (2, .string (bs [115, 99, 102])), (3, .string (bs [99, 99, 102]))]) rfl rfl rfl rfl y_i y_i) rfl ?_)
  rintro _ _ ⟨b21, rfl, rfl⟩
  refine RZ (aZ K_ rfl (fun w hw => gV (k - 19) vY _ _ y_b w (fun _ => ⟨_, 0, rfl, aA m_m w hw⟩))) rfl (A_3 ?_)
  exact E0 rfl ⟨rfl, cA_ (fun l => Value.string (bs l)) y_z⟩
 refine A_4 ?_
 refine KC (fun h9 h9n => ?_) (fun h9 h9n => ?_)
 ·refine A_3 ?_
  refine RW (v := (.int .i64 (k - 19))) rfl rfl (cA_ _ (aI y_a y_a)) (RX (bX (z := [.string (bs [])]) (l := [.string (bs [100, 97, 97]), .string (bs [99, 112, 108]), .string (bs [115, 99, 102]), .string (bs [99, 99, 102])]) (ps := [(0, .string (bs [100, 97, 97])), (1, .string (bs [99, 112, 108])), (2, .string (bs [115, 99, 102])), (3, .string (bs [99, 99, 102]))]) rfl rfl rfl rfl y_i y_i) rfl ?_)
  rintro _ _ ⟨b21, rfl, rfl⟩
  refine RZ (aZ K_ rfl (fun w hw => gV (k - 19) vY _ _ y_b w (fun _ => ⟨_, 0, rfl, aA m_m w hw⟩))) rfl (A_3 ?_)
  exact E0 rfl ⟨rfl, cA_ (fun l => Value.string (bs l)) y_z⟩
 refine A_5 ?_
 refine KC (fun h10 h10n => ?_) (fun h10 h10n => ?_)
 ·refine A_5 ?_
  exact E0 rfl ⟨rfl, cA_ (fun l => Value.string (bs l)) y_z⟩
 refine A_5 ?_
 refine KC (fun h11 h11n => ?_) (fun h11 h11n => ?_)
 ·refine A_5 ?_
  exact E0 rfl ⟨rfl, cA_ (fun l => Value.string (bs l)) y_z⟩
 refine A_5 ?_
 refine KC (fun h12 h12n => ?_) (fun h12 h12n => ?_)
 ·refine A_5 ?_
  exact E0 rfl ⟨rfl, cA_ (fun l => Value.string (bs l)) y_z⟩
 refine A_5 ?_
 refine KC (fun h13 h13n => ?_) (fun h13 h13n => ?_)
 ·refine A_5 ?_
  exact E0 rfl ⟨rfl, cA_ (fun l => Value.string (bs l)) y_z⟩
 refine A_5 ?_
 refine KC (fun h14 h14n => ?_) (fun h14 h14n => ?_)
 ·refine A_5 ?_
  exact E0 rfl ⟨rfl, cA_ (fun l => Value.string (bs l)) y_z⟩
 refine A_6 ?_
 exact E0 rfl ⟨rfl, cA_ (fun l => Value.string (bs l)) y_z⟩
end Go.Proofs.YtdbgagkcgdlnnaaGreat
