/- Orders, and their words. Plain lists. -/
import Derived.Test.YtmihilhmdcndfaaVvU
namespace Go.Proofs.Ytmihilhmdcndfaa
open Go Go.VV

structure Opr where
  kind : Int
  x : Int
  y : Int
  size : Int
  n : Int
  deriving DecidableEq
def cO (o : Opr) : List Value := [.int .i64 o.kind, .int .i64 o.x, .int .i64 o.y, .int .i64 o.size, .int .u16 o.n]
theorem cO_len (o : Opr) : (cO o).length = 5 := rfl
theorem aggE {l : List Value} {o : Opr} (h : l = cO o) : Value.agg l.toArray = .agg (cO o).toArray := by rw [h]
def o0 : Opr := ⟨0, 0, 0, 0, 0⟩
def cW (s : List UInt8) : List Value := [.string (bs s)]
theorem cW_len (s : List UInt8) : (cW s).length = 1 := rfl

/-! ### words -/
def pickL (n : Int) (ws : List (List UInt8)) : List UInt8 := if n < 0 ∨ (ws.length : Int) ≤ n then [63] else ws.getD n.toNat []
theorem pickL_len {ws : List (List UInt8)} {m : Nat} (h : ∀ w ∈ ws, w.length ≤ m) (hm : 1 ≤ m) (n : Int) : (pickL n ws).length ≤ m := by
  unfold pickL
  split
  · simpa using hm
  · rename_i hn
    have hlt : n.toNat < ws.length := by omega
    rw [List.getD_eq_getElem?_getD, List.getElem?_eq_getElem hlt, Option.getD_some]
    exact h _ (List.getElem_mem hlt)
theorem pickL_ne {ws : List (List UInt8)} (h : ∀ w ∈ ws, w ≠ []) (n : Int) : pickL n ws ≠ [] := by
  unfold pickL
  split
  · simp
  · rename_i hn
    have hlt : n.toNat < ws.length := by omega
    rw [List.getD_eq_getElem?_getD, List.getElem?_eq_getElem hlt, Option.getD_some]
    exact h _ (List.getElem_mem hlt)
def oneW : List (List UInt8) := [[98], [99], [100], [101], [104], [108], [40, 104, 108, 41], [97]]
def twoW : List (List UInt8) := [[98, 99], [100, 101], [104, 108], [115, 112], [97, 102]]
def farW : List (List UInt8) := [[40, 98, 99, 41], [40, 100, 101, 41], [40, 104, 108, 43, 41], [40, 104, 108, 45, 41]]
def sumW : List (List UInt8) := [[97, 100, 100], [97, 100, 99], [115, 117, 98], [115, 98, 99], [97, 110, 100], [120, 111, 114], [111, 114], [99, 112]]
def bitW : List (List UInt8) := [[48], [49], [50], [51], [52], [53], [54], [55]]
def turnW : List (List UInt8) := [[114, 108, 99], [114, 114, 99], [114, 108], [114, 114], [115, 108, 97], [115, 114, 97], [115, 119, 97, 112], [115, 114, 108]]
def turnaW : List (List UInt8) := [[114, 108, 99, 97], [114, 114, 99, 97], [114, 108, 97], [114, 114, 97]]
def condW : List (List UInt8) := [[110, 122], [122], [110, 99], [99]]
def flagW : List (List UInt8) := [[100, 97, 97], [99, 112, 108], [115, 99, 102], [99, 99, 102]]
def behW : List (List UInt8) := [[98, 105, 116], [114, 101, 115], [115, 101, 116]]
theorem all_len : (oneW ++ twoW ++ farW ++ sumW ++ bitW ++ turnW ++ turnaW ++ condW ++ flagW ++ behW).all (fun w => Nat.ble w.length 5 && Nat.blt 0 w.length) = true := by decide
theorem len_in {w : List UInt8} (h : w ∈ oneW ++ twoW ++ farW ++ sumW ++ bitW ++ turnW ++ turnaW ++ condW ++ flagW ++ behW) : w.length ≤ 5 := by
  have := List.all_eq_true.1 all_len w h
  simp only [Bool.and_eq_true] at this
  exact Nat.le_of_ble_eq_true this.1
theorem one_len (n : Int) : (pickL n oneW).length ≤ 5 := pickL_len (fun w h => len_in (by simp [h])) (by decide) n
theorem two_len (n : Int) : (pickL n twoW).length ≤ 5 := pickL_len (fun w h => len_in (by simp [h])) (by decide) n
theorem far_len (n : Int) : (pickL n farW).length ≤ 5 := pickL_len (fun w h => len_in (by simp [h])) (by decide) n
theorem sum_len (n : Int) : (pickL n sumW).length ≤ 5 := pickL_len (fun w h => len_in (by simp [h])) (by decide) n
theorem bit_len (n : Int) : (pickL n bitW).length ≤ 5 := pickL_len (fun w h => len_in (by simp [h])) (by decide) n
theorem turn_len (n : Int) : (pickL n turnW).length ≤ 5 := pickL_len (fun w h => len_in (by simp [h])) (by decide) n
theorem turna_len (n : Int) : (pickL n turnaW).length ≤ 5 := pickL_len (fun w h => len_in (by simp [h])) (by decide) n
theorem cond_len (n : Int) : (pickL n condW).length ≤ 5 := pickL_len (fun w h => len_in (by simp [h])) (by decide) n
theorem flag_len (n : Int) : (pickL n flagW).length ≤ 5 := pickL_len (fun w h => len_in (by simp [h])) (by decide) n
theorem beh_len (n : Int) : (pickL n behW).length ≤ 5 := pickL_len (fun w h => len_in (by simp [h])) (by decide) n
theorem cond_ne (n : Int) : pickL n condW ≠ [] := pickL_ne (by decide) n
theorem pick_no {n : Int} {ws : List (List UInt8)} (h : n < 0 ∨ (ws.length : Int) ≤ n) : pickL n ws = [63] := by unfold pickL; rw [if_pos h]
theorem pick_at {n : Int} {ws : List (List UInt8)} {m : Nat} {s : List UInt8} (hn : n = (m : Int)) (h : ws[m]? = some s) : pickL n ws = s := by
  obtain ⟨h1, h2⟩ := List.getElem?_eq_some_iff.1 h
  unfold pickL
  rw [if_neg (by omega), List.getD_eq_getElem?_getD, hn, Int.toNat_natCast, h]; rfl

/-! ### digits -/
def digW : List UInt8 := [48, 49, 50, 51, 52, 53, 54, 55, 56, 57, 97, 98, 99, 100, 101, 102]
def dig (m : Nat) : UInt8 := digW.getD m 0
theorem dig_get {m : Nat} (h : m < 16) : digW[m]? = some (dig m) := by
  unfold dig
  rw [List.getD_eq_getElem?_getD, List.getElem?_eq_getElem (by simpa [digW] using h)]; rfl
def hexL (n : Nat) (many : Nat) : List UInt8 := (List.range many).reverse.map fun i => dig (n / 16 ^ i % 16)
theorem hexL_len (n many : Nat) : (hexL n many).length = many := by simp [hexL]
theorem hexL_get {n many j : Nat} (h : j < many) : (hexL n many)[j]? = some (dig (n / 16 ^ (many - 1 - j) % 16)) := by
  unfold hexL
  rw [List.getElem?_map, List.getElem?_reverse (by simpa using h), List.length_range, List.getElem?_range (by omega)]; rfl
theorem hexL_succ (n i : Nat) : hexL n (i + 1) = dig (n / 16 ^ i % 16) :: hexL n i := by
  unfold hexL
  rw [List.range_succ, List.reverse_append]; rfl
theorem and15 (v : Int) (h0 : 0 ≤ v) (h : v < 65536) : band .u16 v 15 = v % 16 := by
  unfold band
  obtain ⟨m, rfl⟩ : ∃ m : Nat, v = m := ⟨v.toNat, by omega⟩
  have h1 : (BitVec.ofInt IntKind.u16.bits (m : Int) &&& BitVec.ofInt IntKind.u16.bits 15).toNat = m % 16 := by
    have e1 : BitVec.ofInt IntKind.u16.bits (m : Int) = BitVec.ofNat 16 m := by simp [IntKind.bits]
    have e2 : BitVec.ofInt IntKind.u16.bits 15 = BitVec.ofNat 16 15 := rfl
    rw [e1, e2]
    have e3 : (BitVec.ofNat 16 m &&& BitVec.ofNat 16 15).toNat = (m % 65536) &&& 15 := by simp
    have e4 : (m % 65536) &&& 15 = m % 65536 % 16 := Nat.and_two_pow_sub_one_eq_mod (m % 65536) 4
    exact e3.trans (by rw [e4]; omega)
  rw [h1, wrap_u16]; omega
theorem hex_law {n : Int} {i : Nat} (h0 : 0 ≤ n) (h : n < 65536) (hi : i ≤ 3) : band .u16 (shr .u16 n (4 * (i : Int))) 15 = ((n.toNat / 16 ^ i % 16 : Nat) : Int) := by
  have hs : shr .u16 n (4 * (i : Int)) = n / (16 ^ i : Nat) := by
    unfold shr
    have e1 : min (4 * (i : Int)).toNat IntKind.u16.bits = 4 * i := by
      have : IntKind.u16.bits = 16 := rfl
      rw [this]; omega
    rw [e1, Int.fdiv_eq_ediv_of_nonneg _ (by exact Int.le_of_lt (Int.pow_pos (by decide)))]
    congr 1
    have : ((2 : Int) ^ (4 * i)) = ((16 ^ i : Nat) : Int) := by rw [Int.pow_mul]; simp
    exact this
  have hp : (0 : Int) < ((16 ^ i : Nat) : Int) := by
    have : 0 < 16 ^ i := Nat.pow_pos (by decide)
    omega
  rw [hs, and15 _ (Int.ediv_nonneg h0 (by omega)) (by
    have := Int.ediv_le_self ((16 ^ i : Nat) : Int) h0
    omega)]
  obtain ⟨m, rfl⟩ : ∃ m : Nat, n = m := ⟨n.toNat, by omega⟩
  rw [Int.toNat_natCast]
  omega

/-! ### texts -/
def whenL (word : List UInt8) (cond : Int) (more : List UInt8) : List UInt8 :=
  if cond = 4 then (if more = [] then word else word ++ ([32] ++ more))
  else (if more = [] then word ++ ([32] ++ pickL cond condW) else word ++ ([32] ++ pickL cond condW) ++ [44] ++ ([32] ++ more))
def h2 (o : Opr) : List UInt8 := hexL o.n.toNat 2
def h4 (o : Opr) : List UInt8 := hexL o.n.toNat 4
def aloneL (k : Int) : List UInt8 :=
  if k = 1 then [110, 111, 112]
  else if k = 3 then [104, 97, 108, 116]
  else if k = 4 then [98, 97, 100]
  else if k = 5 then [100, 105]
  else if k = 6 then [101, 105]
  else if k = 19 ∨ k = 20 ∨ k = 21 ∨ k = 22 then pickL (k - 19) flagW
  else if k = 27 then [114, 101, 116, 105]
  else if k = 29 then [106, 112, 32, 104, 108]
  else if k = 36 then [108, 100, 104, 32, 97, 44, 32, 40, 99, 41]
  else if k = 37 then [108, 100, 104, 32, 40, 99, 41, 44, 32, 97]
  else if k = 43 then [108, 100, 32, 115, 112, 44, 32, 104, 108]
  else [63]
def restL (o : Opr) : List UInt8 :=
  if o.kind = 28 then [114, 115, 116, 32] ++ h2 o
  else if o.kind = 30 then [112, 117, 115, 104, 32] ++ pickL o.x twoW
  else if o.kind = 31 then [112, 111, 112, 32] ++ pickL o.x twoW
  else if o.kind = 32 then [108, 100, 32, 97, 44, 32] ++ pickL o.x farW
  else if o.kind = 33 then [108, 100, 32] ++ pickL o.x farW ++ [44, 32, 97]
  else if o.kind = 34 then [108, 100, 104, 32, 97, 44, 32, 40] ++ h2 o ++ [41]
  else if o.kind = 35 then [108, 100, 104, 32, 40] ++ h2 o ++ [41, 44, 32, 97]
  else if o.kind = 38 then [108, 100, 32, 97, 44, 32, 40] ++ h4 o ++ [41]
  else if o.kind = 39 then [108, 100, 32, 40] ++ h4 o ++ [41, 44, 32, 97]
  else if o.kind = 40 then [108, 100, 32, 40] ++ h4 o ++ [41, 44, 32, 115, 112]
  else if o.kind = 41 then [97, 100, 100, 32, 115, 112, 44, 32] ++ h2 o
  else if o.kind = 42 then [108, 100, 32, 104, 108, 44, 32, 115, 112, 43] ++ h2 o
  else if o.kind = 44 ∨ o.kind = 45 ∨ o.kind = 46 then pickL (o.kind - 44) behW ++ [32] ++ pickL o.x bitW ++ [44, 32] ++ pickL o.y oneW
  else aloneL o.kind
def txt (o : Opr) : List UInt8 :=
  if o.kind = 2 then [115, 116, 111, 112, 32] ++ h2 o
  else if o.kind = 7 then [108, 100, 32] ++ pickL o.x oneW ++ [44, 32] ++ pickL o.y oneW
  else if o.kind = 8 then [108, 100, 32] ++ pickL o.x oneW ++ [44, 32] ++ h2 o
  else if o.kind = 9 then [108, 100, 32] ++ pickL o.x twoW ++ [44, 32] ++ h4 o
  else if o.kind = 10 then pickL o.x sumW ++ [32, 97, 44, 32] ++ pickL o.y oneW
  else if o.kind = 11 then pickL o.x sumW ++ [32, 97, 44, 32] ++ h2 o
  else if o.kind = 12 then [105, 110, 99, 32] ++ pickL o.x oneW
  else if o.kind = 13 then [100, 101, 99, 32] ++ pickL o.x oneW
  else if o.kind = 14 then [105, 110, 99, 32] ++ pickL o.x twoW
  else if o.kind = 15 then [100, 101, 99, 32] ++ pickL o.x twoW
  else if o.kind = 16 then [97, 100, 100, 32, 104, 108, 44, 32] ++ pickL o.x twoW
  else if o.kind = 17 then pickL o.x turnW ++ [32] ++ pickL o.y oneW
  else if o.kind = 18 then pickL o.x turnaW
  else if o.kind = 23 then whenL [106, 114] o.x (h2 o)
  else if o.kind = 24 then whenL [106, 112] o.x (h4 o)
  else if o.kind = 25 then whenL [99, 97, 108, 108] o.x (h4 o)
  else if o.kind = 26 then whenL [114, 101, 116] o.x []
  else restL o
end Go.Proofs.Ytmihilhmdcndfaa
