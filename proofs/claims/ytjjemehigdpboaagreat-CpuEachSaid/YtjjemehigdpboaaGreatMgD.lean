/- A processor, on whatever bus: what each order does. Plain definitions and laws, no program. -/
import Derived.Test.YtjjemehigdpboaaGreatMgA
import Derived.Test.YtjjemehigdpboaaGreatMgB
import Derived.Test.YtjjemehigdpboaaGreatMgC
namespace Go.Proofs.YtjjemehigdpboaaGreat
open Go Go.VV

structure Opr where
  kind : Int
  x : Int
  y : Int
  size : Int
  n : Int
  deriving DecidableEq
def cO (o : Opr) : List Value := [.int .i64 o.kind, .int .i64 o.x, .int .i64 o.y, .int .i64 o.size, .int .u16 o.n]
theorem cO_len (o : Opr) : (cO o).length = 5 := rfl
theorem aggE {l : List Value} {o : Opr} (h : l = cO o) : Value.agg l.toArray = .agg (cO o).toArray := by rw [h]
def o0 : Opr := ⟨0, 0, 0, 0, 0⟩
def cW (s : List UInt8) : List Value := [.string (bs s)]
theorem cW_len (s : List UInt8) : (cW s).length = 1 := rfl

/-! ### words -/
def pickL (n : Int) (ws : List (List UInt8)) : List UInt8 := if n < 0 ∨ (ws.length : Int) ≤ n then [63] else ws.getD n.toNat []
theorem pickL_len {ws : List (List UInt8)} {m : Nat} (h : ∀ w ∈ ws, w.length ≤ m) (hm : 1 ≤ m) (n : Int) : (pickL n ws).length ≤ m := by
  unfold pickL
  split
  · simpa using hm
  · rename_i hn
    have hlt : n.toNat < ws.length := by omega
    rw [List.getD_eq_getElem?_getD, List.getElem?_eq_getElem hlt, Option.getD_some]
    exact h _ (List.getElem_mem hlt)
theorem pickL_ne {ws : List (List UInt8)} (h : ∀ w ∈ ws, w ≠ []) (n : Int) : pickL n ws ≠ [] := by
  unfold pickL
  split
  · simp
  · rename_i hn
    have hlt : n.toNat < ws.length := by omega
    rw [List.getD_eq_getElem?_getD, List.getElem?_eq_getElem hlt, Option.getD_some]
    exact h _ (List.getElem_mem hlt)
def oneW : List (List UInt8) := [[98], [99], [100], [101], [104], [108], [40, 104, 108, 41], [97]]
def twoW : List (List UInt8) := [[98, 99], [100, 101], [104, 108], [115, 112], [97, 102]]
def farW : List (List UInt8) := [[40, 98, 99, 41], [40, 100, 101, 41], [40, 104, 108, 43, 41], [40, 104, 108, 45, 41]]
def sumW : List (List UInt8) := [[97, 100, 100], [97, 100, 99], [115, 117, 98], [115, 98, 99], [97, 110, 100], [120, 111, 114], [111, 114], [99, 112]]
def bitW : List (List UInt8) := [[48], [49], [50], [51], [52], [53], [54], [55]]
def turnW : List (List UInt8) := [[114, 108, 99], [114, 114, 99], [114, 108], [114, 114], [115, 108, 97], [115, 114, 97], [115, 119, 97, 112], [115, 114, 108]]
def turnaW : List (List UInt8) := [[114, 108, 99, 97], [114, 114, 99, 97], [114, 108, 97], [114, 114, 97]]
def condW : List (List UInt8) := [[110, 122], [122], [110, 99], [99]]
def flagW : List (List UInt8) := [[100, 97, 97], [99, 112, 108], [115, 99, 102], [99, 99, 102]]
def behW : List (List UInt8) := [[98, 105, 116], [114, 101, 115], [115, 101, 116]]
theorem all_len : (oneW ++ twoW ++ farW ++ sumW ++ bitW ++ turnW ++ turnaW ++ condW ++ flagW ++ behW).all (fun w => Nat.ble w.length 5 && Nat.blt 0 w.length) = true := by decide
theorem len_in {w : List UInt8} (h : w ∈ oneW ++ twoW ++ farW ++ sumW ++ bitW ++ turnW ++ turnaW ++ condW ++ flagW ++ behW) : w.length ≤ 5 := by
  have := List.all_eq_true.1 all_len w h
  simp only [Bool.and_eq_true] at this
  exact Nat.le_of_ble_eq_true this.1
theorem one_len (n : Int) : (pickL n oneW).length ≤ 5 := pickL_len (fun w h => len_in (by simp [h])) (by decide) n
theorem two_len (n : Int) : (pickL n twoW).length ≤ 5 := pickL_len (fun w h => len_in (by simp [h])) (by decide) n
theorem far_len (n : Int) : (pickL n farW).length ≤ 5 := pickL_len (fun w h => len_in (by simp [h])) (by decide) n
theorem sum_len (n : Int) : (pickL n sumW).length ≤ 5 := pickL_len (fun w h => len_in (by simp [h])) (by decide) n
theorem bit_len (n : Int) : (pickL n bitW).length ≤ 5 := pickL_len (fun w h => len_in (by simp [h])) (by decide) n
theorem turn_len (n : Int) : (pickL n turnW).length ≤ 5 := pickL_len (fun w h => len_in (by simp [h])) (by decide) n
theorem turna_len (n : Int) : (pickL n turnaW).length ≤ 5 := pickL_len (fun w h => len_in (by simp [h])) (by decide) n
theorem cond_len (n : Int) : (pickL n condW).length ≤ 5 := pickL_len (fun w h => len_in (by simp [h])) (by decide) n
theorem flag_len (n : Int) : (pickL n flagW).length ≤ 5 := pickL_len (fun w h => len_in (by simp [h])) (by decide) n
theorem beh_len (n : Int) : (pickL n behW).length ≤ 5 := pickL_len (fun w h => len_in (by simp [h])) (by decide) n
theorem cond_ne (n : Int) : pickL n condW ≠ [] := pickL_ne (by decide) n
theorem pick_no {n : Int} {ws : List (List UInt8)} (h : n < 0 ∨ (ws.length : Int) ≤ n) : pickL n ws = [63] := by unfold pickL; rw [if_pos h]
theorem pick_at {n : Int} {ws : List (List UInt8)} {m : Nat} {s : List UInt8} (hn : n = (m : Int)) (h : ws[m]? = some s) : pickL n ws = s := by
  obtain ⟨h1, h2⟩ := List.getElem?_eq_some_iff.1 h
  unfold pickL
  rw [if_neg (by omega), List.getD_eq_getElem?_getD, hn, Int.toNat_natCast, h]; rfl

/-! ### digits -/
def digW : List UInt8 := [48, 49, 50, 51, 52, 53, 54, 55, 56, 57, 97, 98, 99, 100, 101, 102]
def dig (m : Nat) : UInt8 := digW.getD m 0
theorem dig_get {m : Nat} (h : m < 16) : digW[m]? = some (dig m) := by
  unfold dig
  rw [List.getD_eq_getElem?_getD, List.getElem?_eq_getElem (by simpa [digW] using h)]; rfl
def hexL (n : Nat) (many : Nat) : List UInt8 := (List.range many).reverse.map fun i => dig (n / 16 ^ i % 16)
theorem hexL_len (n many : Nat) : (hexL n many).length = many := by simp [hexL]
theorem hexL_get {n many j : Nat} (h : j < many) : (hexL n many)[j]? = some (dig (n / 16 ^ (many - 1 - j) % 16)) := by
  unfold hexL
  rw [List.getElem?_map, List.getElem?_reverse (by simpa using h), List.length_range, List.getElem?_range (by omega)]; rfl
theorem hexL_succ (n i : Nat) : hexL n (i + 1) = dig (n / 16 ^ i % 16) :: hexL n i := by
  unfold hexL
  rw [List.range_succ, List.reverse_append]; rfl
theorem and15 (v : Int) (h0 : 0 ≤ v) (h : v < 65536) : band .u16 v 15 = v % 16 := by
  unfold band
  obtain ⟨m, rfl⟩ : ∃ m : Nat, v = m := ⟨v.toNat, by omega⟩
  have h1 : (BitVec.ofInt IntKind.u16.bits (m : Int) &&& BitVec.ofInt IntKind.u16.bits 15).toNat = m % 16 := by
    have e1 : BitVec.ofInt IntKind.u16.bits (m : Int) = BitVec.ofNat 16 m := by simp [IntKind.bits]
    have e2 : BitVec.ofInt IntKind.u16.bits 15 = BitVec.ofNat 16 15 := rfl
    rw [e1, e2]
    have e3 : (BitVec.ofNat 16 m &&& BitVec.ofNat 16 15).toNat = (m % 65536) &&& 15 := by simp
    have e4 : (m % 65536) &&& 15 = m % 65536 % 16 := Nat.and_two_pow_sub_one_eq_mod (m % 65536) 4
    exact e3.trans (by rw [e4]; omega)
  rw [h1, wrap_u16]; omega
theorem hex_law {n : Int} {i : Nat} (h0 : 0 ≤ n) (h : n < 65536) (hi : i ≤ 3) : band .u16 (shr .u16 n (4 * (i : Int))) 15 = ((n.toNat / 16 ^ i % 16 : Nat) : Int) := by
  have hs : shr .u16 n (4 * (i : Int)) = n / (16 ^ i : Nat) := by
    unfold shr
    have e1 : min (4 * (i : Int)).toNat IntKind.u16.bits = 4 * i := by
      have : IntKind.u16.bits = 16 := rfl
      rw [this]; omega
    rw [e1, Int.fdiv_eq_ediv_of_nonneg _ (by exact Int.le_of_lt (Int.pow_pos (by decide)))]
    congr 1
    have : ((2 : Int) ^ (4 * i)) = ((16 ^ i : Nat) : Int) := by rw [Int.pow_mul]; simp
    exact this
  have hp : (0 : Int) < ((16 ^ i : Nat) : Int) := by
    have : 0 < 16 ^ i := Nat.pow_pos (by decide)
    omega
  rw [hs, and15 _ (Int.ediv_nonneg h0 (by omega)) (by
    have := Int.ediv_le_self ((16 ^ i : Nat) : Int) h0
    omega)]
  obtain ⟨m, rfl⟩ : ∃ m : Nat, n = m := ⟨n.toNat, by omega⟩
  rw [Int.toNat_natCast]
  omega

/-! ### texts -/
def whenL (word : List UInt8) (cond : Int) (more : List UInt8) : List UInt8 :=
  if cond = 4 then (if more = [] then word else word ++ ([32] ++ more))
  else (if more = [] then word ++ ([32] ++ pickL cond condW) else word ++ ([32] ++ pickL cond condW) ++ [44] ++ ([32] ++ more))
def h2 (o : Opr) : List UInt8 := hexL o.n.toNat 2
def h4 (o : Opr) : List UInt8 := hexL o.n.toNat 4
def aloneL (k : Int) : List UInt8 :=
  if k = 1 then [110, 111, 112]
  else if k = 3 then [104, 97, 108, 116]
  else if k = 4 then [98, 97, 100]
  else if k = 5 then [100, 105]
  else if k = 6 then [101, 105]
  else if k = 19 ∨ k = 20 ∨ k = 21 ∨ k = 22 then pickL (k - 19) flagW
  else if k = 27 then [114, 101, 116, 105]
  else if k = 29 then [106, 112, 32, 104, 108]
  else if k = 36 then [108, 100, 104, 32, 97, 44, 32, 40, 99, 41]
  else if k = 37 then [108, 100, 104, 32, 40, 99, 41, 44, 32, 97]
  else if k = 43 then [108, 100, 32, 115, 112, 44, 32, 104, 108]
  else [63]
def restL (o : Opr) : List UInt8 :=
  if o.kind = 28 then [114, 115, 116, 32] ++ h2 o
  else if o.kind = 30 then [112, 117, 115, 104, 32] ++ pickL o.x twoW
  else if o.kind = 31 then [112, 111, 112, 32] ++ pickL o.x twoW
  else if o.kind = 32 then [108, 100, 32, 97, 44, 32] ++ pickL o.x farW
  else if o.kind = 33 then [108, 100, 32] ++ pickL o.x farW ++ [44, 32, 97]
  else if o.kind = 34 then [108, 100, 104, 32, 97, 44, 32, 40] ++ h2 o ++ [41]
  else if o.kind = 35 then [108, 100, 104, 32, 40] ++ h2 o ++ [41, 44, 32, 97]
  else if o.kind = 38 then [108, 100, 32, 97, 44, 32, 40] ++ h4 o ++ [41]
  else if o.kind = 39 then [108, 100, 32, 40] ++ h4 o ++ [41, 44, 32, 97]
  else if o.kind = 40 then [108, 100, 32, 40] ++ h4 o ++ [41, 44, 32, 115, 112]
  else if o.kind = 41 then [97, 100, 100, 32, 115, 112, 44, 32] ++ h2 o
  else if o.kind = 42 then [108, 100, 32, 104, 108, 44, 32, 115, 112, 43] ++ h2 o
  else if o.kind = 44 ∨ o.kind = 45 ∨ o.kind = 46 then pickL (o.kind - 44) behW ++ [32] ++ pickL o.x bitW ++ [44, 32] ++ pickL o.y oneW
  else aloneL o.kind
def txt (o : Opr) : List UInt8 :=
  if o.kind = 2 then [115, 116, 111, 112, 32] ++ h2 o
  else if o.kind = 7 then [108, 100, 32] ++ pickL o.x oneW ++ [44, 32] ++ pickL o.y oneW
  else if o.kind = 8 then [108, 100, 32] ++ pickL o.x oneW ++ [44, 32] ++ h2 o
  else if o.kind = 9 then [108, 100, 32] ++ pickL o.x twoW ++ [44, 32] ++ h4 o
  else if o.kind = 10 then pickL o.x sumW ++ [32, 97, 44, 32] ++ pickL o.y oneW
  else if o.kind = 11 then pickL o.x sumW ++ [32, 97, 44, 32] ++ h2 o
  else if o.kind = 12 then [105, 110, 99, 32] ++ pickL o.x oneW
  else if o.kind = 13 then [100, 101, 99, 32] ++ pickL o.x oneW
  else if o.kind = 14 then [105, 110, 99, 32] ++ pickL o.x twoW
  else if o.kind = 15 then [100, 101, 99, 32] ++ pickL o.x twoW
  else if o.kind = 16 then [97, 100, 100, 32, 104, 108, 44, 32] ++ pickL o.x twoW
  else if o.kind = 17 then pickL o.x turnW ++ [32] ++ pickL o.y oneW
  else if o.kind = 18 then pickL o.x turnaW
  else if o.kind = 23 then whenL [106, 114] o.x (h2 o)
  else if o.kind = 24 then whenL [106, 112] o.x (h4 o)
  else if o.kind = 25 then whenL [99, 97, 108, 108] o.x (h4 o)
  else if o.kind = 26 then whenL [114, 101, 116] o.x []
  else restL o
end Go.Proofs.YtjjemehigdpboaaGreat
namespace Go.Proofs.YtjjemehigdpboaaGreat
open Go Go.VV

structure Pq where
  at_ : Nat
  by_ : Nat
  many : Nat
  kind : Int
  size : Int
  x : Option (List Int)

def PL : List Pq := [⟨0, 1, 1, 1, 1, none⟩, ⟨8, 1, 1, 40, 3, none⟩, ⟨16, 1, 1, 2, 2, none⟩, ⟨24, 1, 1, 23, 2, some [4]⟩, ⟨32, 8, 4, 23, 2, some [0, 1, 2, 3]⟩, ⟨1, 16, 4, 9, 3, some [0, 1, 2, 3]⟩, ⟨9, 16, 4, 16, 1, some [0, 1, 2, 3]⟩, ⟨2, 16, 4, 33, 1, some [0, 1, 2, 3]⟩, ⟨10, 16, 4, 32, 1, some [0, 1, 2, 3]⟩, ⟨3, 16, 4, 14, 1, some [0, 1, 2, 3]⟩, ⟨11, 16, 4, 15, 1, some [0, 1, 2, 3]⟩, ⟨4, 8, 8, 12, 1, some [0, 1, 2, 3, 4, 5, 6, 7]⟩, ⟨5, 8, 8, 13, 1, some [0, 1, 2, 3, 4, 5, 6, 7]⟩, ⟨6, 8, 8, 8, 2, some [0, 1, 2, 3, 4, 5, 6, 7]⟩, ⟨7, 8, 4, 18, 1, some [0, 1, 2, 3]⟩, ⟨39, 1, 1, 19, 1, none⟩, ⟨47, 1, 1, 20, 1, none⟩, ⟨55, 1, 1, 21, 1, none⟩, ⟨63, 1, 1, 22, 1, none⟩, ⟨192, 8, 4, 26, 1, some [0, 1, 2, 3]⟩, ⟨224, 1, 1, 35, 2, none⟩, ⟨232, 1, 1, 41, 2, none⟩, ⟨240, 1, 1, 34, 2, none⟩, ⟨248, 1, 1, 42, 2, none⟩, ⟨193, 16, 4, 31, 1, some [0, 1, 2, 4]⟩, ⟨197, 16, 4, 30, 1, some [0, 1, 2, 4]⟩, ⟨201, 1, 1, 26, 1, some [4]⟩, ⟨217, 1, 1, 27, 1, none⟩, ⟨233, 1, 1, 29, 1, none⟩, ⟨249, 1, 1, 43, 1, none⟩, ⟨194, 8, 4, 24, 3, some [0, 1, 2, 3]⟩, ⟨226, 1, 1, 37, 1, none⟩, ⟨234, 1, 1, 39, 3, none⟩, ⟨242, 1, 1, 36, 1, none⟩, ⟨250, 1, 1, 38, 3, none⟩, ⟨195, 1, 1, 24, 3, some [4]⟩, ⟨243, 1, 1, 5, 1, none⟩, ⟨251, 1, 1, 6, 1, none⟩, ⟨196, 8, 4, 25, 3, some [0, 1, 2, 3]⟩, ⟨205, 1, 1, 25, 3, some [4]⟩, ⟨198, 8, 8, 11, 2, some [0, 1, 2, 3, 4, 5, 6, 7]⟩]
def tabP : List Opr := [⟨1, 0, 0, 1, 0⟩, ⟨9, 0, 0, 3, 0⟩, ⟨33, 0, 0, 1, 0⟩, ⟨14, 0, 0, 1, 0⟩, ⟨12, 0, 0, 1, 0⟩, ⟨13, 0, 0, 1, 0⟩, ⟨8, 0, 0, 2, 0⟩, ⟨18, 0, 0, 1, 0⟩, ⟨40, 0, 0, 3, 0⟩, ⟨16, 0, 0, 1, 0⟩, ⟨32, 0, 0, 1, 0⟩, ⟨15, 0, 0, 1, 0⟩, ⟨12, 1, 0, 1, 0⟩, ⟨13, 1, 0, 1, 0⟩, ⟨8, 1, 0, 2, 0⟩, ⟨18, 1, 0, 1, 0⟩, ⟨2, 0, 0, 2, 0⟩, ⟨9, 1, 0, 3, 0⟩, ⟨33, 1, 0, 1, 0⟩, ⟨14, 1, 0, 1, 0⟩, ⟨12, 2, 0, 1, 0⟩, ⟨13, 2, 0, 1, 0⟩, ⟨8, 2, 0, 2, 0⟩, ⟨18, 2, 0, 1, 0⟩, ⟨23, 4, 0, 2, 0⟩, ⟨16, 1, 0, 1, 0⟩, ⟨32, 1, 0, 1, 0⟩, ⟨15, 1, 0, 1, 0⟩, ⟨12, 3, 0, 1, 0⟩, ⟨13, 3, 0, 1, 0⟩, ⟨8, 3, 0, 2, 0⟩, ⟨18, 3, 0, 1, 0⟩, ⟨23, 0, 0, 2, 0⟩, ⟨9, 2, 0, 3, 0⟩, ⟨33, 2, 0, 1, 0⟩, ⟨14, 2, 0, 1, 0⟩, ⟨12, 4, 0, 1, 0⟩, ⟨13, 4, 0, 1, 0⟩, ⟨8, 4, 0, 2, 0⟩, ⟨19, 0, 0, 1, 0⟩, ⟨23, 1, 0, 2, 0⟩, ⟨16, 2, 0, 1, 0⟩, ⟨32, 2, 0, 1, 0⟩, ⟨15, 2, 0, 1, 0⟩, ⟨12, 5, 0, 1, 0⟩, ⟨13, 5, 0, 1, 0⟩, ⟨8, 5, 0, 2, 0⟩, ⟨20, 0, 0, 1, 0⟩, ⟨23, 2, 0, 2, 0⟩, ⟨9, 3, 0, 3, 0⟩, ⟨33, 3, 0, 1, 0⟩, ⟨14, 3, 0, 1, 0⟩, ⟨12, 6, 0, 1, 0⟩, ⟨13, 6, 0, 1, 0⟩, ⟨8, 6, 0, 2, 0⟩, ⟨21, 0, 0, 1, 0⟩, ⟨23, 3, 0, 2, 0⟩, ⟨16, 3, 0, 1, 0⟩, ⟨32, 3, 0, 1, 0⟩, ⟨15, 3, 0, 1, 0⟩, ⟨12, 7, 0, 1, 0⟩, ⟨13, 7, 0, 1, 0⟩, ⟨8, 7, 0, 2, 0⟩, ⟨22, 0, 0, 1, 0⟩, ⟨7, 0, 0, 1, 0⟩, ⟨7, 0, 1, 1, 0⟩, ⟨7, 0, 2, 1, 0⟩, ⟨7, 0, 3, 1, 0⟩, ⟨7, 0, 4, 1, 0⟩, ⟨7, 0, 5, 1, 0⟩, ⟨7, 0, 6, 1, 0⟩, ⟨7, 0, 7, 1, 0⟩, ⟨7, 1, 0, 1, 0⟩, ⟨7, 1, 1, 1, 0⟩, ⟨7, 1, 2, 1, 0⟩, ⟨7, 1, 3, 1, 0⟩, ⟨7, 1, 4, 1, 0⟩, ⟨7, 1, 5, 1, 0⟩, ⟨7, 1, 6, 1, 0⟩, ⟨7, 1, 7, 1, 0⟩, ⟨7, 2, 0, 1, 0⟩, ⟨7, 2, 1, 1, 0⟩, ⟨7, 2, 2, 1, 0⟩, ⟨7, 2, 3, 1, 0⟩, ⟨7, 2, 4, 1, 0⟩, ⟨7, 2, 5, 1, 0⟩, ⟨7, 2, 6, 1, 0⟩, ⟨7, 2, 7, 1, 0⟩, ⟨7, 3, 0, 1, 0⟩, ⟨7, 3, 1, 1, 0⟩, ⟨7, 3, 2, 1, 0⟩, ⟨7, 3, 3, 1, 0⟩, ⟨7, 3, 4, 1, 0⟩, ⟨7, 3, 5, 1, 0⟩, ⟨7, 3, 6, 1, 0⟩, ⟨7, 3, 7, 1, 0⟩, ⟨7, 4, 0, 1, 0⟩, ⟨7, 4, 1, 1, 0⟩, ⟨7, 4, 2, 1, 0⟩, ⟨7, 4, 3, 1, 0⟩, ⟨7, 4, 4, 1, 0⟩, ⟨7, 4, 5, 1, 0⟩, ⟨7, 4, 6, 1, 0⟩, ⟨7, 4, 7, 1, 0⟩, ⟨7, 5, 0, 1, 0⟩, ⟨7, 5, 1, 1, 0⟩, ⟨7, 5, 2, 1, 0⟩, ⟨7, 5, 3, 1, 0⟩, ⟨7, 5, 4, 1, 0⟩, ⟨7, 5, 5, 1, 0⟩, ⟨7, 5, 6, 1, 0⟩, ⟨7, 5, 7, 1, 0⟩, ⟨7, 6, 0, 1, 0⟩, ⟨7, 6, 1, 1, 0⟩, ⟨7, 6, 2, 1, 0⟩, ⟨7, 6, 3, 1, 0⟩, ⟨7, 6, 4, 1, 0⟩, ⟨7, 6, 5, 1, 0⟩, ⟨3, 0, 0, 1, 0⟩, ⟨7, 6, 7, 1, 0⟩, ⟨7, 7, 0, 1, 0⟩, ⟨7, 7, 1, 1, 0⟩, ⟨7, 7, 2, 1, 0⟩, ⟨7, 7, 3, 1, 0⟩, ⟨7, 7, 4, 1, 0⟩, ⟨7, 7, 5, 1, 0⟩, ⟨7, 7, 6, 1, 0⟩, ⟨7, 7, 7, 1, 0⟩, ⟨10, 0, 0, 1, 0⟩, ⟨10, 0, 1, 1, 0⟩, ⟨10, 0, 2, 1, 0⟩, ⟨10, 0, 3, 1, 0⟩, ⟨10, 0, 4, 1, 0⟩, ⟨10, 0, 5, 1, 0⟩, ⟨10, 0, 6, 1, 0⟩, ⟨10, 0, 7, 1, 0⟩, ⟨10, 1, 0, 1, 0⟩, ⟨10, 1, 1, 1, 0⟩, ⟨10, 1, 2, 1, 0⟩, ⟨10, 1, 3, 1, 0⟩, ⟨10, 1, 4, 1, 0⟩, ⟨10, 1, 5, 1, 0⟩, ⟨10, 1, 6, 1, 0⟩, ⟨10, 1, 7, 1, 0⟩, ⟨10, 2, 0, 1, 0⟩, ⟨10, 2, 1, 1, 0⟩, ⟨10, 2, 2, 1, 0⟩, ⟨10, 2, 3, 1, 0⟩, ⟨10, 2, 4, 1, 0⟩, ⟨10, 2, 5, 1, 0⟩, ⟨10, 2, 6, 1, 0⟩, ⟨10, 2, 7, 1, 0⟩, ⟨10, 3, 0, 1, 0⟩, ⟨10, 3, 1, 1, 0⟩, ⟨10, 3, 2, 1, 0⟩, ⟨10, 3, 3, 1, 0⟩, ⟨10, 3, 4, 1, 0⟩, ⟨10, 3, 5, 1, 0⟩, ⟨10, 3, 6, 1, 0⟩, ⟨10, 3, 7, 1, 0⟩, ⟨10, 4, 0, 1, 0⟩, ⟨10, 4, 1, 1, 0⟩, ⟨10, 4, 2, 1, 0⟩, ⟨10, 4, 3, 1, 0⟩, ⟨10, 4, 4, 1, 0⟩, ⟨10, 4, 5, 1, 0⟩, ⟨10, 4, 6, 1, 0⟩, ⟨10, 4, 7, 1, 0⟩, ⟨10, 5, 0, 1, 0⟩, ⟨10, 5, 1, 1, 0⟩, ⟨10, 5, 2, 1, 0⟩, ⟨10, 5, 3, 1, 0⟩, ⟨10, 5, 4, 1, 0⟩, ⟨10, 5, 5, 1, 0⟩, ⟨10, 5, 6, 1, 0⟩, ⟨10, 5, 7, 1, 0⟩, ⟨10, 6, 0, 1, 0⟩, ⟨10, 6, 1, 1, 0⟩, ⟨10, 6, 2, 1, 0⟩, ⟨10, 6, 3, 1, 0⟩, ⟨10, 6, 4, 1, 0⟩, ⟨10, 6, 5, 1, 0⟩, ⟨10, 6, 6, 1, 0⟩, ⟨10, 6, 7, 1, 0⟩, ⟨10, 7, 0, 1, 0⟩, ⟨10, 7, 1, 1, 0⟩, ⟨10, 7, 2, 1, 0⟩, ⟨10, 7, 3, 1, 0⟩, ⟨10, 7, 4, 1, 0⟩, ⟨10, 7, 5, 1, 0⟩, ⟨10, 7, 6, 1, 0⟩, ⟨10, 7, 7, 1, 0⟩, ⟨26, 0, 0, 1, 0⟩, ⟨31, 0, 0, 1, 0⟩, ⟨24, 0, 0, 3, 0⟩, ⟨24, 4, 0, 3, 0⟩, ⟨25, 0, 0, 3, 0⟩, ⟨30, 0, 0, 1, 0⟩, ⟨11, 0, 0, 2, 0⟩, ⟨28, 0, 0, 1, 0⟩, ⟨26, 1, 0, 1, 0⟩, ⟨26, 4, 0, 1, 0⟩, ⟨24, 1, 0, 3, 0⟩, ⟨4, 0, 0, 1, 0⟩, ⟨25, 1, 0, 3, 0⟩, ⟨25, 4, 0, 3, 0⟩, ⟨11, 1, 0, 2, 0⟩, ⟨28, 0, 0, 1, 8⟩, ⟨26, 2, 0, 1, 0⟩, ⟨31, 1, 0, 1, 0⟩, ⟨24, 2, 0, 3, 0⟩, ⟨4, 0, 0, 1, 0⟩, ⟨25, 2, 0, 3, 0⟩, ⟨30, 1, 0, 1, 0⟩, ⟨11, 2, 0, 2, 0⟩, ⟨28, 0, 0, 1, 16⟩, ⟨26, 3, 0, 1, 0⟩, ⟨27, 0, 0, 1, 0⟩, ⟨24, 3, 0, 3, 0⟩, ⟨4, 0, 0, 1, 0⟩, ⟨25, 3, 0, 3, 0⟩, ⟨4, 0, 0, 1, 0⟩, ⟨11, 3, 0, 2, 0⟩, ⟨28, 0, 0, 1, 24⟩, ⟨35, 0, 0, 2, 0⟩, ⟨31, 2, 0, 1, 0⟩, ⟨37, 0, 0, 1, 0⟩, ⟨4, 0, 0, 1, 0⟩, ⟨4, 0, 0, 1, 0⟩, ⟨30, 2, 0, 1, 0⟩, ⟨11, 4, 0, 2, 0⟩, ⟨28, 0, 0, 1, 32⟩, ⟨41, 0, 0, 2, 0⟩, ⟨29, 0, 0, 1, 0⟩, ⟨39, 0, 0, 3, 0⟩, ⟨4, 0, 0, 1, 0⟩, ⟨4, 0, 0, 1, 0⟩, ⟨4, 0, 0, 1, 0⟩, ⟨11, 5, 0, 2, 0⟩, ⟨28, 0, 0, 1, 40⟩, ⟨34, 0, 0, 2, 0⟩, ⟨31, 4, 0, 1, 0⟩, ⟨36, 0, 0, 1, 0⟩, ⟨5, 0, 0, 1, 0⟩, ⟨4, 0, 0, 1, 0⟩, ⟨30, 4, 0, 1, 0⟩, ⟨11, 6, 0, 2, 0⟩, ⟨28, 0, 0, 1, 48⟩, ⟨42, 0, 0, 2, 0⟩, ⟨43, 0, 0, 1, 0⟩, ⟨38, 0, 0, 3, 0⟩, ⟨6, 0, 0, 1, 0⟩, ⟨4, 0, 0, 1, 0⟩, ⟨4, 0, 0, 1, 0⟩, ⟨11, 7, 0, 2, 0⟩, ⟨28, 0, 0, 1, 56⟩]
def p1 (i : Nat) : Opr := if i / 64 = 1 then ⟨7, (i / 8 % 8 : Nat), (i % 8 : Nat), 1, 0⟩ else if i / 64 = 2 then ⟨10, (i / 8 % 8 : Nat), (i % 8 : Nat), 1, 0⟩ else ⟨4, 0, 0, 1, 0⟩
def b1 (i : Nat) : Opr := ⟨[17, 44, 45, 46].getD (i / 64) 0, (i / 8 % 8 : Nat), (i % 8 : Nat), 2, 0⟩
def qOp (q : Pq) (i : Nat) : Opr := ⟨q.kind, match q.x with
  | some x => x.getD i 0
  | none => 0, 0, q.size, 0⟩
def putN (q : Pq) (P : List Opr) (n : Nat) : List Opr := (List.range n).foldl (fun P i => P.set (q.at_ + q.by_ * i) (qOp q i)) P
def putQ (P : List Opr) (q : Pq) : List Opr := putN q P q.many
def rstP (P : List Opr) (n : Nat) : List Opr := (List.range n).foldl (fun P y => P.set (199 + 8 * y) ⟨28, 0, 0, 1, (8 * y : Nat)⟩) P
def okQ (q : Pq) : Bool := (List.range q.many).all (fun i => Nat.blt (q.at_ + q.by_ * i) 256) && Nat.ble q.many 8 && Nat.ble q.by_ 16 && (match q.x with
  | some x => Nat.beq x.length q.many
  | none => true)
theorem PL_ok : PL.all okQ = true := by decide
theorem PL_len : PL.length = 41 := rfl
def startP : List Opr := ((List.range 256).map p1).set 118 ⟨3, 0, 0, 1, 0⟩
def tabB : List Opr := (List.range 256).map b1
theorem tab_eq : rstP (PL.foldl putQ startP) 8 = tabP := by kernel_rfl
theorem putN_zero (q : Pq) (P : List Opr) : putN q P 0 = P := rfl
theorem rstP_zero (P : List Opr) : rstP P 0 = P := rfl
theorem putN_succ (q : Pq) (P : List Opr) (n : Nat) : putN q P (n + 1) = (putN q P n).set (q.at_ + q.by_ * n) (qOp q n) := by simp [putN, List.range_succ]
theorem rstP_succ (P : List Opr) (n : Nat) : rstP P (n + 1) = (rstP P n).set (199 + 8 * n) ⟨28, 0, 0, 1, (8 * n : Nat)⟩ := by simp [rstP, List.range_succ]
theorem putN_len (q : Pq) (P : List Opr) (n : Nat) : (putN q P n).length = P.length := by
  induction n with
  | zero => rfl
  | succ n ih => rw [putN_succ, List.length_set, ih]
theorem rstP_len (P : List Opr) (n : Nat) : (rstP P n).length = P.length := by
  induction n with
  | zero => rfl
  | succ n ih => rw [rstP_succ, List.length_set, ih]
theorem foldQ_len (l : List Pq) (P : List Opr) : (l.foldl putQ P).length = P.length := by
  induction l generalizing P with
  | nil => rfl
  | cons q l ih => rw [List.foldl_cons, ih, putQ, putN_len]
theorem startP_len : startP.length = 256 := by simp [startP]
theorem foldQ_take {k : Nat} {q : Pq} (h : PL[k]? = some q) (P : List Opr) : (PL.take (k + 1)).foldl putQ P = putQ ((PL.take k).foldl putQ P) q := by
  rw [get_part h, List.foldl_append]; rfl
theorem okQ_spec {q : Pq} (h : okQ q = true) : (∀ i, i < q.many → q.at_ + q.by_ * i < 256) ∧ q.many ≤ 8 ∧ q.by_ ≤ 16 ∧ ∀ x, q.x = some x → x.length = q.many := by
  simp only [okQ, Bool.and_eq_true, List.all_eq_true, List.mem_range] at h
  obtain ⟨⟨⟨h1, h2⟩, h3⟩, h4⟩ := h
  refine ⟨fun i hi => Nat.lt_of_lt_of_le (Nat.lt_succ_self _) (Nat.le_of_ble_eq_true (h1 i hi)), Nat.le_of_ble_eq_true h2, Nat.le_of_ble_eq_true h3, fun x hx => ?_⟩
  rw [hx] at h4
  exact Nat.eq_of_beq_eq_true h4
theorem okQ_at {k : Nat} {q : Pq} (h : PL[k]? = some q) : okQ q = true := List.all_eq_true.1 PL_ok q (List.mem_of_getElem? h)

/-! ### a row of 256 that is filled place by place -/
theorem set_take {α : Type} {P : List α} {j : Nat} (h : j < P.length) (x : α) : (P.set j x).take (j + 1) = P.take j ++ [x] := by
  rw [List.set_eq_take_append_cons_drop, if_pos h, List.take_append, List.length_take, Nat.min_eq_left (by omega), Nat.add_sub_cancel_left, List.take_take]
  rw [Nat.min_eq_right (by omega)]; rfl
structure Filled (f : Nat → Opr) (P : List Opr) (j : Nat) : Prop where
  len : P.length = 256
  part : P.take j = (List.range j).map f
theorem Filled.start (f : Nat → Opr) {P : List Opr} (h : P.length = 256) : Filled f P 0 := ⟨h, by simp⟩
theorem Filled.step {f : Nat → Opr} {P : List Opr} {j : Nat} (h : Filled f P j) (hj : j < 256) : Filled f (P.set j (f j)) (j + 1) :=
  ⟨by rw [List.length_set, h.len], by rw [set_take (by rw [h.len]; exact hj), h.part, List.range_succ, List.map_append]; rfl⟩
theorem Filled.all {f : Nat → Opr} {P : List Opr} (h : Filled f P 256) : P = (List.range 256).map f := by
  have := h.part
  rwa [List.take_of_length_le (by rw [h.len]; exact Nat.le_refl _)] at this
theorem set_twice {P : List Opr} {j : Nat} (x y : Opr) : (P.set j x).set j y = P.set j y := List.set_set ..

/-! ### how it stands in memory -/
def tabL (u1 u2 u3 : Value) (P B : List Opr) : List Value := u1 :: u2 :: u3 :: (flat cO P ++ flat cO B)
section
variable {u1 u2 u3 : Value} {P B : List Opr}
theorem tabL_len (hP : P.length = 256) (hB : B.length = 256) : (tabL u1 u2 u3 P B).length = 2563 := by
  simp [tabL, flat_len cO_len, hP, hB]
theorem putL_set {α : Type} {c : α → List Value} {s : Nat} (hc : ∀ x, (c x).length = s) (X : List Value) (l : List α) (Z : List Value) {i : Nat} (hi : i < l.length) (y : α) : putL (X ++ (flat c l ++ Z)) (X.length + i * s) (c y) = X ++ (flat c (l.set i y) ++ Z) := by
  have h1 : l = l.take i ++ l[i] :: l.drop (i + 1) := split_at hi
  have h2 : l.set i y = l.take i ++ y :: l.drop (i + 1) := by rw [List.set_eq_take_append_cons_drop, if_pos hi]
  have hl : (X ++ flat c (l.take i)).length = X.length + i * s := by rw [List.length_append, flat_len hc, List.length_take, Nat.min_eq_left (by omega)]
  have h := putL_mid (X ++ flat c (l.take i)) (c l[i]) (flat c (l.drop (i + 1)) ++ Z) (c y) (by rw [hc, hc])
  rw [hl] at h
  have e1 : X ++ (flat c l ++ Z) = X ++ flat c (l.take i) ++ (c l[i] ++ (flat c (l.drop (i + 1)) ++ Z)) := by
    conv => lhs; rw [h1]
    rw [flat_append, flat_cons]; simp only [List.append_assoc]
  have e2 : X ++ (flat c (l.set i y) ++ Z) = X ++ flat c (l.take i) ++ (c y ++ (flat c (l.drop (i + 1)) ++ Z)) := by
    rw [h2, flat_append, flat_cons]; simp only [List.append_assoc]
  rw [e1, e2]; exact h
theorem tabL_setP (hP : P.length = 256) {i : Nat} (hi : i < 256) (x : Opr) : putL (tabL u1 u2 u3 P B) (3 + i * 5) (cO x) = tabL u1 u2 u3 (P.set i x) B :=
  putL_set cO_len [u1, u2, u3] P (flat cO B) (by omega) x
theorem tabL_setB (hP : P.length = 256) (hB : B.length = 256) {i : Nat} (hi : i < 256) (x : Opr) : putL (tabL u1 u2 u3 P B) (1283 + i * 5) (cO x) = tabL u1 u2 u3 P (B.set i x) := by
  have h := putL_set cO_len (u1 :: u2 :: u3 :: flat cO P) B [] (i := i) (by omega) x
  have hl : (u1 :: u2 :: u3 :: flat cO P).length = 1283 := by simp [flat_len cO_len, hP]
  rw [hl] at h
  simpa [tabL] using h
theorem tabL_rowP {w : World} {b : Nat} (h : Row w b 0 (tabL u1 u2 u3 P B)) {i : Nat} {x : Opr} (hi : P[i]? = some x) : Row w b (3 + i * 5) (cO x) := by
  have h1 : Row w b 3 (flat cO P ++ flat cO B) := fun j v hv => by
    have := h (3 + j) v (by rw [Nat.add_comm]; exact hv)
    rwa [Nat.zero_add] at this
  exact Row.nth' cO_len h1.left hi
theorem tabL_rowB {w : World} {b : Nat} (hP : P.length = 256) (h : Row w b 0 (tabL u1 u2 u3 P B)) {i : Nat} {x : Opr} (hi : B[i]? = some x) : Row w b (1283 + i * 5) (cO x) := by
  have h1 : Row w b 1283 (flat cO B) := fun j v hv => by
    have := h (1283 + j) v (by
      have e : tabL u1 u2 u3 P B = (u1 :: u2 :: u3 :: flat cO P) ++ flat cO B := by simp [tabL]
      have hl : (u1 :: u2 :: u3 :: flat cO P).length = 1283 := by simp [flat_len cO_len, hP]
      rw [e, List.getElem?_append_right (by omega), hl, Nat.add_sub_cancel_left]; exact hv)
    rwa [Nat.zero_add] at this
  exact Row.nth' cO_len h1 hi
end

/-! ### what three bytes begin with -/
def numO (o : Opr) (b w : Int) : Opr := { o with n := if o.size = 2 then b else if o.size = 3 then w else o.n }
def behS (b : Int) : Opr := if b / 64 = 0 then ⟨17, b / 8 % 8, b % 8, 2, 0⟩ else ⟨43 + b / 64, b / 8 % 8, b % 8, 2, 0⟩
def dcd (a b c : Int) : Opr := if a = 203 then behS b else numO (tabP.getD a.toNat o0) b (b + 256 * c)
theorem beh_all : (List.range 256).all (fun b => decide (b1 b = behS (b : Nat))) = true := by kernel_rfl
theorem beh_at {b : Nat} (h : b < 256) : b1 b = behS (b : Nat) := by
  have := List.all_eq_true.1 beh_all b (List.mem_range.2 h)
  simpa using this
theorem tabB_get {b : Nat} (h : b < 256) : tabB[b]? = some (behS (b : Nat)) := by
  rw [← beh_at h, tabB, List.getElem?_map, List.getElem?_range h]; rfl
theorem tabP_len : tabP.length = 256 := by kernel_rfl
theorem tabP_get {a : Nat} (h : a < 256) : tabP[a]? = some (tabP.getD a o0) := by
  rw [List.getD_eq_getElem?_getD, List.getElem?_eq_getElem (by rw [tabP_len]; exact h)]; rfl
def lowS (y z : Int) : Opr :=
  if z = 0 then (if y = 0 then ⟨1, 0, 0, 1, 0⟩ else if y = 1 then ⟨40, 0, 0, 3, 0⟩ else if y = 2 then ⟨2, 0, 0, 2, 0⟩ else if y = 3 then ⟨23, 4, 0, 2, 0⟩ else ⟨23, y - 4, 0, 2, 0⟩)
  else if z = 1 then (if y % 2 = 0 then ⟨9, y / 2, 0, 3, 0⟩ else ⟨16, y / 2, 0, 1, 0⟩)
  else if z = 2 then ⟨33 - y % 2, y / 2, 0, 1, 0⟩
  else if z = 3 then ⟨14 + y % 2, y / 2, 0, 1, 0⟩
  else if z = 4 then ⟨12, y, 0, 1, 0⟩
  else if z = 5 then ⟨13, y, 0, 1, 0⟩
  else if z = 6 then ⟨8, y, 0, 2, 0⟩
  else if y < 4 then ⟨18, y, 0, 1, 0⟩ else ⟨15 + y, 0, 0, 1, 0⟩
def prS (p : Int) : Int := if p = 3 then 4 else p
def highS (y z : Int) : Opr :=
  if z = 0 then (if y = 4 then ⟨35, 0, 0, 2, 0⟩ else if y = 5 then ⟨41, 0, 0, 2, 0⟩ else if y = 6 then ⟨34, 0, 0, 2, 0⟩ else if y = 7 then ⟨42, 0, 0, 2, 0⟩ else ⟨26, y, 0, 1, 0⟩)
  else if z = 1 then (if y % 2 = 0 then ⟨31, prS (y / 2), 0, 1, 0⟩ else if y / 2 = 0 then ⟨26, 4, 0, 1, 0⟩ else if y / 2 = 1 then ⟨27, 0, 0, 1, 0⟩ else if y / 2 = 2 then ⟨29, 0, 0, 1, 0⟩ else ⟨43, 0, 0, 1, 0⟩)
  else if z = 2 then (if y = 4 then ⟨37, 0, 0, 1, 0⟩ else if y = 5 then ⟨39, 0, 0, 3, 0⟩ else if y = 6 then ⟨36, 0, 0, 1, 0⟩ else if y = 7 then ⟨38, 0, 0, 3, 0⟩ else ⟨24, y, 0, 3, 0⟩)
  else if z = 3 then (if y = 0 then ⟨24, 4, 0, 3, 0⟩ else if y = 6 then ⟨5, 0, 0, 1, 0⟩ else if y = 7 then ⟨6, 0, 0, 1, 0⟩ else ⟨4, 0, 0, 1, 0⟩)
  else if z = 4 then (if y < 4 then ⟨25, y, 0, 3, 0⟩ else ⟨4, 0, 0, 1, 0⟩)
  else if z = 5 then (if y % 2 = 0 then ⟨30, prS (y / 2), 0, 1, 0⟩ else if y / 2 = 0 then ⟨25, 4, 0, 3, 0⟩ else ⟨4, 0, 0, 1, 0⟩)
  else if z = 6 then ⟨11, y, 0, 2, 0⟩
  else if z = 7 then ⟨28, 0, 0, 1, 8 * y⟩ else ⟨4, 0, 0, 1, 0⟩
def highR (y z b w : Int) : Opr := if z = 3 ∧ y = 1 then behS b else numO (highS y z) b w
def refO (a b w : Int) : Opr :=
  if a / 64 = 0 then numO (lowS (a / 8 % 8) (a % 8)) b w
  else if a / 64 = 1 then (if a / 8 % 8 = 6 ∧ a % 8 = 6 then ⟨3, 0, 0, 1, 0⟩ else ⟨7, a / 8 % 8, a % 8, 1, 0⟩)
  else if a / 64 = 2 then ⟨10, a / 8 % 8, a % 8, 1, 0⟩ else highR (a / 8 % 8) (a % 8) b w
def refT (a : Nat) : Bool :=
  let x := a / 64; let y : Int := (a / 8 % 8 : Nat); let z : Int := (a % 8 : Nat)
  if x = 0 then decide (tabP.getD a o0 = lowS y z)
  else if x = 1 then decide (tabP.getD a o0 = if a / 8 % 8 = 6 ∧ a % 8 = 6 then ⟨3, 0, 0, 1, 0⟩ else ⟨7, y, z, 1, 0⟩)
  else if x = 2 then decide (tabP.getD a o0 = ⟨10, y, z, 1, 0⟩)
  else decide (a = 203 ∨ tabP.getD a o0 = highS y z)
theorem ref_all : (List.range 256).all refT = true := by kernel_rfl
theorem ref_eq {a b c : Int} (h0 : 0 ≤ a) (h : a < 256) : refO a b (b + 256 * c) = dcd a b c := by
  obtain ⟨m, rfl⟩ : ∃ m : Nat, a = m := ⟨a.toNat, by omega⟩
  have hm := List.all_eq_true.1 ref_all m (List.mem_range.2 (by omega))
  have hx : ((m : Int) / 64) = ((m / 64 : Nat) : Int) := by omega
  have hy : ((m : Int) / 8 % 8) = ((m / 8 % 8 : Nat) : Int) := by omega
  have hz : ((m : Int) % 8) = ((m % 8 : Nat) : Int) := by omega
  unfold refT at hm
  unfold refO dcd
  rw [hx, hy, hz, Int.toNat_natCast]
  by_cases h0 : m / 64 = 0
  · rw [if_pos h0] at hm
    rw [if_pos (by omega), if_neg (by omega), ← of_decide_eq_true hm]
  · rw [if_neg h0] at hm
    rw [if_neg (by omega)]
    by_cases h1 : m / 64 = 1
    · rw [if_pos h1] at hm
      rw [if_pos (show ((m / 64 : Nat) : Int) = 1 by omega)]
      by_cases hh : m / 8 % 8 = 6 ∧ m % 8 = 6
      · rw [if_pos hh] at hm
        rw [if_pos (show ((m / 8 % 8 : Nat) : Int) = 6 ∧ ((m % 8 : Nat) : Int) = 6 from ⟨by rw [hh.1]; rfl, by rw [hh.2]; rfl⟩), if_neg (show ¬ (m : Int) = 203 by omega), of_decide_eq_true hm]; rfl
      · rw [if_neg hh] at hm
        rw [if_neg (show ¬ (((m / 8 % 8 : Nat) : Int) = 6 ∧ ((m % 8 : Nat) : Int) = 6) from fun h => hh ⟨by have := h.1; omega, by have := h.2; omega⟩), if_neg (show ¬ (m : Int) = 203 by omega), of_decide_eq_true hm]; rfl
    · rw [if_neg h1] at hm
      rw [if_neg (by omega)]
      by_cases h2 : m / 64 = 2
      · rw [if_pos h2] at hm
        rw [if_pos (by omega), if_neg (by omega), of_decide_eq_true hm]; rfl
      · rw [if_neg h2] at hm
        rw [if_neg (by omega)]
        unfold highR
        by_cases hb : m = 203
        · subst hb; rfl
        · rw [if_neg (by omega), if_neg (by omega)]
          rcases of_decide_eq_true hm with h3 | h3
          · exact absurd h3 hb
          · rw [h3]
end Go.Proofs.YtjjemehigdpboaaGreat
namespace Go.Proofs.YtjjemehigdpboaaGreat
open Go Go.VV

theorem dcd_beh {a b c : Int} (h : a = 203) : dcd a b c = behS b := by unfold dcd; rw [if_pos h]
theorem dcd_plain {a b c : Int} {m : Nat} {o : Opr} (ha : a = (m : Int)) (h : ¬ a = 203) (ho : tabP[m]? = some o) : dcd a b c = numO o b (b + 256 * c) := by
  unfold dcd
  rw [if_neg h, ha, Int.toNat_natCast, List.getD_eq_getElem?_getD, ho]; rfl
theorem numO_2 {o : Opr} (h : o.size = 2) (b w : Int) : numO o b w = ⟨o.kind, o.x, o.y, o.size, b⟩ := by unfold numO; rw [if_pos h]
theorem numO_3 {o : Opr} (h : o.size = 3) (b w : Int) : numO o b w = ⟨o.kind, o.x, o.y, o.size, w⟩ := by unfold numO; rw [if_neg (by omega), if_pos h]
theorem numO_1 {o : Opr} (h : ¬ o.size = 2) (h3 : ¬ o.size = 3) (b w : Int) : numO o b w = o := by unfold numO; rw [if_neg h, if_neg h3]
theorem or_law {b c : Int} (hb : 0 ≤ b ∧ b < 256) (hc : 0 ≤ c ∧ c < 256) : bor .u16 b (shl .u16 c 8) = b + 256 * c := by
  obtain ⟨m, rfl⟩ : ∃ m : Nat, b = m := ⟨b.toNat, by omega⟩
  obtain ⟨n, rfl⟩ : ∃ n : Nat, c = n := ⟨c.toNat, by omega⟩
  have h1 : shl .u16 (n : Int) 8 = ((n * 256 : Nat) : Int) := by
    unfold shl
    have : (min (8 : Int).toNat IntKind.u16.bits) = 8 := by decide
    rw [this, wrap_u16]; omega
  rw [h1]
  unfold bor
  have h2 : (BitVec.ofInt IntKind.u16.bits (m : Int) ||| BitVec.ofInt IntKind.u16.bits ((n * 256 : Nat) : Int)).toNat = n * 256 + m := by
    have e1 : BitVec.ofInt IntKind.u16.bits (m : Int) = BitVec.ofNat 16 m := by simp [IntKind.bits]
    have e2 : BitVec.ofInt IntKind.u16.bits ((n * 256 : Nat) : Int) = BitVec.ofNat 16 (n * 256) := by simp only [IntKind.bits]; exact BitVec.ofInt_natCast ..
    rw [e1, e2]
    have e3 : (BitVec.ofNat 16 m ||| BitVec.ofNat 16 (n * 256)).toNat = (m % 65536) ||| (n * 256 % 65536) := by simp
    have e4 : m % 65536 = m := by omega
    have e5 : n * 256 % 65536 = n * 256 := by omega
    have e6 : n * 256 ||| m = n * 256 + m := by
      have := Nat.shiftLeft_add_eq_or_of_lt (i := 8) (b := m) (by omega) n
      rw [Nat.shiftLeft_eq] at this
      simpa using this.symm
    exact e3.trans (by rw [e4, e5, Nat.or_comm, e6])
  rw [h2, wrap_u16]; omega
/-- What holds of all 256 rows of the table. -/
def rowOk (o : Opr) : Bool := decide (1 ≤ o.kind ∧ o.kind ≤ 46 ∧ 1 ≤ o.size ∧ o.size ≤ 3 ∧ 0 ≤ o.n ∧ o.n < 256)
theorem rows_ok : tabP.all rowOk = true := by kernel_rfl
theorem row_ok {m : Nat} {o : Opr} (h : tabP[m]? = some o) : 1 ≤ o.kind ∧ o.kind ≤ 46 ∧ 1 ≤ o.size ∧ o.size ≤ 3 ∧ 0 ≤ o.n ∧ o.n < 256 :=
  of_decide_eq_true (List.all_eq_true.1 rows_ok o (List.mem_of_getElem? h))
theorem tab_some {a : Int} (h0 : 0 ≤ a) (h : a < 256) : ∃ m : Nat, ∃ o, a = (m : Int) ∧ m < 256 ∧ tabP[m]? = some o :=
  ⟨a.toNat, _, by omega, by omega, tabP_get (by omega)⟩
structure Fine (a : Int) (o : Opr) : Prop where
  kind : 1 ≤ o.kind ∧ o.kind ≤ 46
  size : 1 ≤ o.size ∧ o.size ≤ 3
  num : 0 ≤ o.n ∧ o.n < 65536
  small : o.size = 3 ∨ o.n < 256
theorem beh_fine {b : Int} (hb : 0 ≤ b ∧ b < 256) : Fine 203 (behS b) := by
  unfold behS
  split <;> exact ⟨⟨by dsimp only; omega, by dsimp only; omega⟩, ⟨by dsimp only; omega, by dsimp only; omega⟩, ⟨by dsimp only; omega, by dsimp only; omega⟩, .inr (by dsimp only; omega)⟩
theorem dcd_fine {a b c : Int} (ha : 0 ≤ a ∧ a < 256) (hb : 0 ≤ b ∧ b < 256) (hc : 0 ≤ c ∧ c < 256) : Fine a (dcd a b c) := by
  by_cases h : a = 203
  · rw [dcd_beh h, h]; exact beh_fine hb
  · obtain ⟨m, o, hm, _, ho⟩ := tab_some ha.1 ha.2
    have hr := row_ok ho
    rw [dcd_plain hm h ho]
    by_cases h2 : o.size = 2
    · rw [numO_2 h2]; exact ⟨⟨hr.1, hr.2.1⟩, ⟨hr.2.2.1, hr.2.2.2.1⟩, ⟨hb.1, by dsimp only; omega⟩, .inr hb.2⟩
    · by_cases h3 : o.size = 3
      · rw [numO_3 h3]; exact ⟨⟨hr.1, hr.2.1⟩, ⟨hr.2.2.1, hr.2.2.2.1⟩, ⟨by dsimp only; omega, by dsimp only; omega⟩, .inl h3⟩
      · rw [numO_1 h2 h3]; exact ⟨⟨hr.1, hr.2.1⟩, ⟨hr.2.2.1, hr.2.2.2.1⟩, ⟨hr.2.2.2.2.1, by omega⟩, .inr hr.2.2.2.2.2⟩
/-- What stands behind an order plays no part. -/
theorem dcd_behind1 {a b c d : Int} (ha : 0 ≤ a ∧ a < 256) (h : ¬ (dcd a b c).size > 1) : dcd a d c = dcd a b c := by
  by_cases h2 : a = 203
  · rw [dcd_beh h2] at h; exact absurd (by unfold behS; split <;> (dsimp only; omega)) h
  · obtain ⟨m, o, hm, _, ho⟩ := tab_some ha.1 ha.2
    rw [dcd_plain hm h2 ho] at h
    have hs : (numO o b (b + 256 * c)).size = o.size := rfl
    rw [hs] at h
    rw [dcd_plain hm h2 ho, dcd_plain hm h2 ho, numO_1 (by omega) (by omega), numO_1 (by omega) (by omega)]
theorem dcd_behind2 {a b c d : Int} (ha : 0 ≤ a ∧ a < 256) (h : ¬ (dcd a b c).size > 2) : dcd a b d = dcd a b c := by
  by_cases h2 : a = 203
  · rw [dcd_beh h2, dcd_beh h2]
  · obtain ⟨m, o, hm, _, ho⟩ := tab_some ha.1 ha.2
    rw [dcd_plain hm h2 ho] at h
    have hs : (numO o b (b + 256 * c)).size = o.size := rfl
    rw [hs] at h
    rw [dcd_plain hm h2 ho, dcd_plain hm h2 ho]
    by_cases h3 : o.size = 2
    · rw [numO_2 h3, numO_2 h3]
    · rw [numO_1 h3 (by omega), numO_1 h3 (by omega)]
theorem lveq_cO (o : Opr) : lveq (cO o) (cO o) = true := by simp [lveq, veq, cO]
theorem lveq_iff (o p : Opr) : lveq (cO o) (cO p) = decide (o = p) := by
  obtain ⟨a, b, c, d, e⟩ := o
  obtain ⟨a2, b2, c2, d2, e2⟩ := p
  simp only [lveq, veq, cO, Opr.mk.injEq, Bool.decide_and, Bool.and_true]
  rfl
theorem cO_of (cs : List Value) (h : Cks [.int .i64, .int .i64, .int .i64, .int .i64, .int .u16] cs) : ∃ x, cs = cO x ∧ (0 ≤ x.n ∧ x.n < 65536) := by
  obtain ⟨a, _, rfl, _, h1⟩ := ck_i h
  obtain ⟨b, _, rfl, _, h2⟩ := ck_i h1
  obtain ⟨c, _, rfl, _, h3⟩ := ck_i h2
  obtain ⟨d, _, rfl, _, h4⟩ := ck_i h3
  obtain ⟨e, _, rfl, he, h5⟩ := ck_i h4
  obtain rfl := ck_0 h5
  exact ⟨⟨a, b, c, d, e⟩, rfl, wf_u16 he⟩
end Go.Proofs.YtjjemehigdpboaaGreat
namespace Go.Proofs.YtjjemehigdpboaaGreat
open Go Go.VV

def b2i (c : Bool) : Int := if c = true then 1 else 0
def fl (z n h c : Bool) : Int := (if z = true then 128 else 0) + (if n = true then 64 else 0) + (if h = true then 32 else 0) + (if c = true then 16 else 0)
def zF (f : Int) : Bool := f / 128 == 1
def nF (f : Int) : Bool := f / 64 % 2 == 1
def hF (f : Int) : Bool := f / 32 % 2 == 1
def cF (f : Int) : Bool := f / 16 % 2 == 1
def addR (a b : Int) (c : Bool) : Int := (a + b + b2i c) % 256
def addF (a b : Int) (c : Bool) : Int := fl (addR a b c == 0) false (decide (15 < a % 16 + b % 16 + b2i c)) (decide (255 < a + b + b2i c))
def subR (a b : Int) (c : Bool) : Int := (a - b - b2i c) % 256
def subF (a b : Int) (c : Bool) : Int := fl (subR a b c == 0) true (decide (a % 16 < b % 16 + b2i c)) (decide (a < b + b2i c))
def logF (k : Int) (r : Int) : Int := fl (r == 0) false (k == 0) false
def incR (a : Int) : Int := (a + 1) % 256
def incF (a f : Int) : Int := fl (incR a == 0) false (a % 16 == 15) (cF f)
def decR (a : Int) : Int := (a - 1) % 256
def decF (a f : Int) : Int := fl (decR a == 0) true (a % 16 == 0) (cF f)
def daaC (a f : Int) : Bool := cF f || (!nF f && decide (153 < a))
def daaL (a f : Int) : Bool := hF f || (!nF f && decide (9 < a % 16))
/-- A flag, if it is. -/
def fg (x : Int) (b : Bool) : Int := if b = true then x else 0
def daaB (a f : Int) : Int := fg 6 (daaL a f) + fg 96 (daaC a f)
def daaR (a f : Int) : Int := if nF f = true then (a - daaB a f) % 256 else (a + daaB a f) % 256
def daaF (a f : Int) : Int := fl (daaR a f == 0) (nF f) false (daaC a f)
def turnO (k a : Int) : Bool := if k % 8 = 6 then false else if k % 8 = 0 ∨ k % 8 = 2 ∨ k % 8 = 4 then a / 128 == 1 else a % 2 == 1
def turnR (k a f : Int) : Int :=
  if k % 8 = 0 then a * 2 % 256 + a / 128 else if k % 8 = 1 then a / 2 + a % 2 * 128 else if k % 8 = 2 then a * 2 % 256 + b2i (cF f) else if k % 8 = 3 then a / 2 + b2i (cF f) * 128
  else if k % 8 = 4 then a * 2 % 256 else if k % 8 = 5 then a / 2 + a / 128 * 128 else if k % 8 = 6 then a % 16 * 16 + a / 16 else a / 2
def turnF (k a f : Int) : Int := fl (turnR k a f == 0) false false (turnO k a)
def bitF (n a f : Int) : Int := fl (a / 2 ^ (n % 8).toNat % 2 == 0) false true (cF f)
def add16R (a b : Int) : Int := (a + b) % 65536
def add16F (a b f : Int) : Int := fl (zF f) false (decide (4095 < a % 4096 + b % 4096)) (decide (65535 < a + b))
def s8 (e : Int) : Int := if 127 < e then e - 256 else e
def shR (a e : Int) : Int := (a + s8 e) % 65536
def shF (a e : Int) : Int := fl false false (decide (15 < a % 16 + e % 16)) (decide (255 < a % 256 + e))

theorem fg_1 (b : Bool) : fg 1 b = b2i b := rfl
theorem or_zhc (z h c : Bool) : bor .u8 (bor .u8 (fg 128 z) (fg 32 h)) (fg 16 c) = fl z false h c := by cases z <;> cases h <;> cases c <;> decide
theorem or_znhc (z h c : Bool) : bor .u8 (bor .u8 (bor .u8 (fg 128 z) 64) (fg 32 h)) (fg 16 c) = fl z true h c := by cases z <;> cases h <;> cases c <;> decide
theorem or_zh (z : Bool) : bor .u8 (fg 128 z) 32 = fl z false true false := by cases z <;> decide
theorem or_z (z : Bool) : fg 128 z = fl z false false false := by cases z <;> decide
theorem or_zhC (z c : Bool) : bor .u8 (bor .u8 (fg 128 z) 32) (fg 16 c) = fl z false true c := by cases z <;> cases c <;> decide
theorem or_znc (z n c : Bool) : bor .u8 (bor .u8 (fg 128 z) (fg 64 n)) (fg 16 c) = fl z n false c := by cases z <;> cases n <;> cases c <;> decide
theorem or_zc (z c : Bool) : bor .u8 (fg 128 z) (fg 16 c) = fl z false false c := by cases z <;> cases c <;> decide
theorem or_hc (h c : Bool) : bor .u8 (fg 32 h) (fg 16 c) = fl false false h c := by cases h <;> cases c <;> decide
theorem bit_fg (x k : Int) (v : Int) : v / k % 2 * x = fg x (v / k % 2 == 1) := by
  unfold fg
  rcases (show v / k % 2 = 0 ∨ v / k % 2 = 1 by omega) with h | h <;> rw [h] <;> simp
theorem cF_fg (f : Int) : f / 16 % 2 * 16 = fg 16 (cF f) := bit_fg 16 16 f
theorem nF_fg (f : Int) : f / 64 % 2 * 64 = fg 64 (nF f) := bit_fg 64 64 f
theorem zF_fg {f : Int} (h : 0 ≤ f ∧ f < 256) : f / 128 % 2 * 128 = fg 128 (zF f) := by
  rw [bit_fg 128 128 f]
  unfold zF
  rw [show f / 128 % 2 = f / 128 by omega]
theorem or_Zhc (z h c : Bool) : bor .u8 (bor .u8 (fg 128 z) (fg 32 h)) (fg 16 c) = fl z false h c := or_zhc z h c
theorem s8_wrap {e : Int} (h : 0 ≤ e ∧ e < 256) : IntKind.wrap .i8 e = s8 e :=
  byte_all (p := fun e => IntKind.wrap .i8 e = s8 e) (by decide +kernel) h.1 h.2
theorem band_low (n : Int) (j : Nat) (hj : j < 60) : band .i64 n (2 ^ j - 1 : Nat) = n % (2 ^ j : Nat) := by
  have h1 : 2 ^ j < 2 ^ 60 := Nat.pow_lt_pow_right (by decide) hj
  have hp : 0 < 2 ^ j := Nat.two_pow_pos j
  have h2 : (BitVec.ofInt 64 n &&& BitVec.ofInt 64 ((2 ^ j - 1 : Nat) : Int)).toNat = (n % (2 ^ j : Nat)).toNat := by
    rw [BitVec.toNat_and, BitVec.toNat_ofInt, BitVec.toNat_ofInt]
    have e1 : (((2 ^ j - 1 : Nat) : Int) % ((2 ^ 64 : Nat) : Int)).toNat = 2 ^ j - 1 := by omega
    rw [e1, Nat.and_two_pow_sub_one_eq_mod]
    obtain ⟨q, hq⟩ : (2 ^ j : Nat) ∣ 2 ^ 64 := Nat.pow_dvd_pow 2 (by omega)
    have h3 : n % ((2 ^ 64 : Nat) : Int) % ((2 ^ j : Nat) : Int) = n % ((2 ^ j : Nat) : Int) := Int.emod_emod_of_dvd n (by rw [hq]; exact ⟨q, by push_cast; rfl⟩)
    have h4 : 0 ≤ n % ((2 ^ 64 : Nat) : Int) := Int.emod_nonneg _ (by decide)
    rw [← h3, Int.toNat_emod h4 (Int.natCast_nonneg _), Int.toNat_natCast]
  show IntKind.wrap .i64 ((BitVec.ofInt 64 n &&& BitVec.ofInt 64 ((2 ^ j - 1 : Nat) : Int)).toNat : Int) = _
  rw [h2]
  have h5 : 0 ≤ n % ((2 ^ j : Nat) : Int) := Int.emod_nonneg _ (by omega)
  have h6 : n % ((2 ^ j : Nat) : Int) < ((2 ^ j : Nat) : Int) := Int.emod_lt_of_pos _ (by omega)
  rw [Int.toNat_of_nonneg h5]
  exact wrap_i64 (by omega) (by omega)
theorem low_8 (n : Int) : band .i64 n 7 = n % 8 := band_low n 3 (by decide)
theorem shr_byte (n : Int) {a : Int} (h : 0 ≤ a ∧ a < 256) : 0 ≤ a / 2 ^ (n % 8).toNat ∧ a / 2 ^ (n % 8).toNat < 256 := by
  have hp : 0 < (2 : Int) ^ (n % 8).toNat := Int.pow_pos (by decide)
  refine ⟨Int.ediv_nonneg h.1 (by omega), ?_⟩
  exact Int.lt_of_le_of_lt (Int.ediv_le_self _ h.1) h.2
theorem shr_low {a m : Int} (h : 0 ≤ m ∧ m < 8) : shr .u8 a m = a / 2 ^ m.toNat := by
  unfold shr
  rw [show min m.toNat (IntKind.bits .u8) = m.toNat from Nat.min_eq_left (by show m.toNat ≤ 8; omega)]
  exact Int.fdiv_eq_ediv_of_nonneg _ (Int.le_of_lt (Int.pow_pos (by decide)))
theorem byte_b {p : Int → Bool → Prop} (h : ∀ n : Fin 256, ∀ b : Bool, p (n.val : Int) b) {x : Int} (hx : 0 ≤ x ∧ x < 256) (b : Bool) : p x b := byte_all (p := fun x => p x b) (fun n => h n b) hx.1 hx.2
theorem ne_nF {f : Int} (h : 0 ≤ f ∧ f < 256) : (band .u8 f 64 != 0) = nF f := byte_all (p := fun f => (band .u8 f 64 != 0) = nF f) (by decide +kernel) h.1 h.2
theorem ne_hF {f : Int} (h : 0 ≤ f ∧ f < 256) : (band .u8 f 32 != 0) = hF f := byte_all (p := fun f => (band .u8 f 32 != 0) = hF f) (by decide +kernel) h.1 h.2
theorem ne_cF {f : Int} (h : 0 ≤ f ∧ f < 256) : (band .u8 f 16 != 0) = cF f := byte_all (p := fun f => (band .u8 f 16 != 0) = cF f) (by decide +kernel) h.1 h.2
theorem ne_zF {f : Int} (h : 0 ≤ f ∧ f < 256) : (band .u8 f 128 != 0) = zF f := byte_all (p := fun f => (band .u8 f 128 != 0) = zF f) (by decide +kernel) h.1 h.2
theorem band_c {f : Int} (h : 0 ≤ f ∧ f < 256) : band .u8 f 16 = fg 16 (cF f) := byte_all (p := fun f => band .u8 f 16 = fg 16 (cF f)) (by decide +kernel) h.1 h.2
theorem fg_ne (c : Bool) : (fg 16 c != 0) = c := by cases c <;> decide
theorem or_96 (c : Bool) : bor .u8 (fg 6 c) 96 = fg 6 c + 96 := by cases c <;> decide
theorem shr_c (c : Bool) : shr .u8 (fg 16 c) 4 = b2i c := by cases c <;> decide
theorem or_low {a : Int} (h : 0 ≤ a ∧ a < 256) (c : Bool) : bor .u8 (a * 2 % 256) (b2i c) = a * 2 % 256 + b2i c := byte_b (p := fun a c => bor .u8 (a * 2 % 256) (b2i c) = a * 2 % 256 + b2i c) (by decide +kernel) h c
theorem or_topB {a : Int} (h : 0 ≤ a ∧ a < 256) (c : Bool) : bor .u8 (a / 2) (b2i c * 128) = a / 2 + b2i c * 128 := byte_b (p := fun a c => bor .u8 (a / 2) (b2i c * 128) = a / 2 + b2i c * 128) (by decide +kernel) h c
theorem or_topL {a : Int} (h : 0 ≤ a ∧ a < 256) : bor .u8 (a / 2) (a % 2 * 128) = a / 2 + a % 2 * 128 := byte_all (p := fun a => bor .u8 (a / 2) (a % 2 * 128) = a / 2 + a % 2 * 128) (by decide +kernel) h.1 h.2
theorem or_topH {a : Int} (h : 0 ≤ a ∧ a < 256) : bor .u8 (a / 2) (a / 128 % 2 * 128) = a / 2 + a / 128 * 128 := byte_all (p := fun a => bor .u8 (a / 2) (a / 128 % 2 * 128) = a / 2 + a / 128 * 128) (by decide +kernel) h.1 h.2
theorem rot_1 {a : Int} (h : 0 ≤ a ∧ a < 256) : bor .u8 (shl .u8 a 1) (shr .u8 a 7) = a * 2 % 256 + a / 128 := byte_all (p := fun a => bor .u8 (shl .u8 a 1) (shr .u8 a 7) = a * 2 % 256 + a / 128) (by decide +kernel) h.1 h.2
theorem rot_4 {a : Int} (h : 0 ≤ a ∧ a < 256) : bor .u8 (shl .u8 a 4) (shr .u8 a 4) = a % 16 * 16 + a / 16 := byte_all (p := fun a => bor .u8 (shl .u8 a 4) (shr .u8 a 4) = a % 16 * 16 + a / 16) (by decide +kernel) h.1 h.2
theorem x16 {x : Int} (h : x = 0 ∨ x = 1) : x * 16 = fg 16 (x == 1) := by rcases h with rfl | rfl <;> decide
theorem b2i_le (c : Bool) : 0 ≤ b2i c ∧ b2i c ≤ 1 := by cases c <;> decide
theorem fl_byte (z n h c : Bool) : 0 ≤ fl z n h c ∧ fl z n h c < 256 := by cases z <;> cases n <;> cases h <;> cases c <;> decide
theorem fl_low (z n h c : Bool) : fl z n h c % 16 = 0 := by cases z <;> cases n <;> cases h <;> cases c <;> decide

/-! ### the bytes and pairs -/
structure CR where
  a : Int
  f : Int
  b : Int
  c : Int
  d : Int
  e : Int
  h : Int
  l : Int
  sp : Int
  pc : Int
deriving DecidableEq
structure CR.Ok (r : CR) : Prop where
  a : 0 ≤ r.a ∧ r.a < 256
  f : 0 ≤ r.f ∧ r.f < 256
  b : 0 ≤ r.b ∧ r.b < 256
  c : 0 ≤ r.c ∧ r.c < 256
  d : 0 ≤ r.d ∧ r.d < 256
  e : 0 ≤ r.e ∧ r.e < 256
  h : 0 ≤ r.h ∧ r.h < 256
  l : 0 ≤ r.l ∧ r.l < 256
  sp : 0 ≤ r.sp ∧ r.sp < 65536
  pc : 0 ≤ r.pc ∧ r.pc < 65536
def cR (r : CR) : List Value := [.int .u8 r.a, .int .u8 r.f, .int .u8 r.b, .int .u8 r.c, .int .u8 r.d, .int .u8 r.e, .int .u8 r.h, .int .u8 r.l, .int .u16 r.sp, .int .u16 r.pc]
def r0 : CR := ⟨0, 0, 0, 0, 0, 0, 0, 0, 0, 0⟩
def getR (r : CR) (n : Int) : Int := if n = 0 then r.b else if n = 1 then r.c else if n = 2 then r.d else if n = 3 then r.e else if n = 4 then r.h else if n = 5 then r.l else if n = 7 then r.a else 0
def setR (r : CR) (n x : Int) : CR :=
  if n = 0 then { r with b := x } else if n = 1 then { r with c := x } else if n = 2 then { r with d := x } else if n = 3 then { r with e := x } else if n = 4 then { r with h := x } else if n = 5 then { r with l := x } else if n = 7 then { r with a := x } else r0
def pairR (r : CR) (n : Int) : Int := if n = 0 then r.b * 256 + r.c else if n = 1 then r.d * 256 + r.e else if n = 2 then r.h * 256 + r.l else if n = 3 then r.sp else if n = 4 then r.a * 256 + r.f / 16 * 16 else 0
def setPR (r : CR) (n x : Int) : CR :=
  if n = 0 then { r with b := x / 256, c := x % 256 } else if n = 1 then { r with d := x / 256, e := x % 256 } else if n = 2 then { r with h := x / 256, l := x % 256 } else if n = 3 then { r with sp := x }
  else if n = 4 then { r with a := x / 256, f := x % 256 / 16 * 16 } else r0
def isR (r : CR) (n : Int) : Bool := if n = 0 then !zF r.f else if n = 1 then zF r.f else if n = 2 then !cF r.f else if n = 3 then cF r.f else n == 4
/-- Where a byte stands, in the block of its own. -/
def atL (rb : Nat) : List Value := [.pointer (some ⟨rb, 2, none⟩), .pointer (some ⟨rb, 3, none⟩), .pointer (some ⟨rb, 4, none⟩), .pointer (some ⟨rb, 5, none⟩), .pointer (some ⟨rb, 6, none⟩), .pointer (some ⟨rb, 7, none⟩), .pointer none, .pointer (some ⟨rb, 0, none⟩)]
def atV (rb : Nat) (n : Int) : Value := if n < 0 ∨ 8 ≤ n then .pointer none else (atL rb).getD n.toNat (.pointer none)
def NoR (n : Int) : Prop := n < 0 ∨ n = 6 ∨ 8 ≤ n
theorem reg_cases (n : Int) : n = 0 ∨ n = 1 ∨ n = 2 ∨ n = 3 ∨ n = 4 ∨ n = 5 ∨ n = 7 ∨ NoR n := by unfold NoR; omega
theorem atV_no {n : Int} (h : NoR n) (rb : Nat) : atV rb n = .pointer none := by
  unfold NoR at h
  rcases h with h | h | h
  · unfold atV; rw [if_pos (.inl h)]
  · subst h; rfl
  · unfold atV; rw [if_pos (.inr h)]
theorem getR_no {n : Int} (h : NoR n) (r : CR) : getR r n = 0 := by unfold NoR at h; unfold getR; repeat rw [if_neg (by omega)]
theorem setR_no {n : Int} (h : NoR n) (r : CR) (x : Int) : setR r n x = r0 := by unfold NoR at h; unfold setR; repeat rw [if_neg (by omega)]
theorem pairR_no {n : Int} (h : n < 0 ∨ 4 < n) (r : CR) : pairR r n = 0 := by unfold pairR; repeat rw [if_neg (by omega)]
theorem setPR_no {n : Int} (h : n < 0 ∨ 4 < n) (r : CR) (x : Int) : setPR r n x = r0 := by unfold setPR; repeat rw [if_neg (by omega)]
theorem or_wrd {h l : Int} (hh : 0 ≤ h ∧ h < 256) (hl : 0 ≤ l ∧ l < 256) : bor .u16 (h * 256) l = h * 256 + l := by
  have e : ∀ x y : Int, bor .u16 x y = bor .u16 y x := fun x y => by unfold bor; rw [BitVec.or_comm]
  have := or_law hl hh
  rw [e, show shl .u16 h 8 = h * 256 by unfold shl; exact wrap_u16_id (by show 0 ≤ h * 2 ^ 8; omega) (by show h * 2 ^ 8 < 65536; omega)] at this
  omega
theorem clr_nat {x : Nat} (h : x < 65536) : x &&& 65520 = x / 16 * 16 := by
  apply Nat.eq_of_testBit_eq
  intro i
  rw [Nat.testBit_and, show x / 16 * 16 = (x >>> 4) <<< 4 by rw [Nat.shiftRight_eq_div_pow, Nat.shiftLeft_eq], Nat.testBit_shiftLeft, Nat.testBit_shiftRight]
  have hb : ∀ i, i < 16 → Nat.testBit 65520 i = decide (4 ≤ i) := by decide
  by_cases hi : i < 16
  · rw [hb i hi]
    by_cases h4 : 4 ≤ i
    · rw [show 4 + (i - 4) = i by omega]; simp [h4]
    · simp [h4]
  · have hx : x.testBit i = false := Nat.testBit_lt_two_pow (Nat.lt_of_lt_of_le h (show 2 ^ 16 ≤ 2 ^ i from Nat.pow_le_pow_right (by decide) (by omega)))
    rw [show 4 + (i - 4) = i by omega, hx]; simp
theorem clr_15 {x : Int} (h : 0 ≤ x ∧ x < 65536) : bandn .u16 x 15 = x / 16 * 16 := by
  obtain ⟨m, rfl⟩ : ∃ m : Nat, x = m := ⟨x.toNat, by omega⟩
  have h1 : (BitVec.ofInt 16 (m : Int) &&& ~~~BitVec.ofInt 16 15).toNat = m / 16 * 16 := by
    rw [BitVec.toNat_and, show (~~~BitVec.ofInt 16 15).toNat = 65520 by decide, show (BitVec.ofInt 16 (m : Int)).toNat = m by rw [BitVec.toNat_ofInt]; omega]
    exact clr_nat (by omega)
  show IntKind.wrap .u16 ((BitVec.ofInt 16 (m : Int) &&& ~~~BitVec.ofInt 16 15).toNat : Int) = _
  rw [h1]
  exact (wrap_u16_id (by omega) (by omega)).trans (by omega)
theorem hi_16 {f : Int} (h : 0 ≤ f ∧ f < 256) : band .u8 f 240 = f / 16 * 16 := byte_all (p := fun f => band .u8 f 240 = f / 16 * 16) (by decide +kernel) h.1 h.2
theorem isR_01 {n : Int} (h : n = 0 ∨ n = 1) (r : CR) : (zF r.f == (n == 1)) = isR r n := by
  rcases h with rfl | rfl
  · show (zF r.f == false) = !zF r.f; cases zF r.f <;> rfl
  · show (zF r.f == true) = zF r.f; cases zF r.f <;> rfl
theorem isR_23 {n : Int} (h : n = 2 ∨ n = 3) (r : CR) : (cF r.f == (n == 3)) = isR r n := by
  rcases h with rfl | rfl
  · show (cF r.f == false) = !cF r.f; cases cF r.f <;> rfl
  · show (cF r.f == true) = cF r.f; cases cF r.f <;> rfl
theorem isR_4 {n : Int} (h0 : n ≠ 0) (h1 : n ≠ 1) (h2 : n ≠ 2) (h3 : n ≠ 3) (r : CR) : (n == 4) = isR r n := by unfold isR; rw [if_neg h0, if_neg h1, if_neg h2, if_neg h3]
def hiO (n : Int) : Nat := if n = 0 then 2 else if n = 1 then 4 else if n = 2 then 6 else 0
def loO (n : Int) : Nat := if n = 0 then 3 else if n = 1 then 5 else if n = 2 then 7 else 1
theorem r0_ok : r0.Ok := ⟨by decide, by decide, by decide, by decide, by decide, by decide, by decide, by decide, by decide, by decide⟩
theorem getR_byte {r : CR} (h : r.Ok) (n : Int) : 0 ≤ getR r n ∧ getR r n < 256 := by
  have h1 := h.a; have h2 := h.b; have h3 := h.c; have h4 := h.d; have h5 := h.e; have h6 := h.h; have h7 := h.l
  unfold getR; repeat' split
  all_goals omega
theorem pairR_word {r : CR} (h : r.Ok) (n : Int) : 0 ≤ pairR r n ∧ pairR r n < 65536 := by
  have h1 := h.a; have h2 := h.b; have h3 := h.c; have h4 := h.d; have h5 := h.e; have h6 := h.h; have h7 := h.l; have h8 := h.f; have h9 := h.sp
  unfold pairR; repeat' split
  all_goals omega
theorem CR.Ok.set {r : CR} (h : r.Ok) (n : Int) {x : Int} (hx : 0 ≤ x ∧ x < 256) : (setR r n x).Ok := by
  unfold setR; repeat' split
  all_goals first | exact r0_ok | exact ⟨hx, h.f, h.b, h.c, h.d, h.e, h.h, h.l, h.sp, h.pc⟩ | exact ⟨h.a, h.f, hx, h.c, h.d, h.e, h.h, h.l, h.sp, h.pc⟩ | exact ⟨h.a, h.f, h.b, hx, h.d, h.e, h.h, h.l, h.sp, h.pc⟩ | exact ⟨h.a, h.f, h.b, h.c, hx, h.e, h.h, h.l, h.sp, h.pc⟩ | exact ⟨h.a, h.f, h.b, h.c, h.d, hx, h.h, h.l, h.sp, h.pc⟩ | exact ⟨h.a, h.f, h.b, h.c, h.d, h.e, hx, h.l, h.sp, h.pc⟩ | exact ⟨h.a, h.f, h.b, h.c, h.d, h.e, h.h, hx, h.sp, h.pc⟩
theorem CR.Ok.setP {r : CR} (h : r.Ok) (n : Int) {x : Int} (hx : 0 ≤ x ∧ x < 65536) : (setPR r n x).Ok := by
  have hh : 0 ≤ x / 256 ∧ x / 256 < 256 := by omega
  have hl : 0 ≤ x % 256 ∧ x % 256 < 256 := by omega
  have hf : 0 ≤ x % 256 / 16 * 16 ∧ x % 256 / 16 * 16 < 256 := by omega
  unfold setPR; repeat' split
  all_goals first | exact r0_ok | exact ⟨h.a, h.f, hh, hl, h.d, h.e, h.h, h.l, h.sp, h.pc⟩ | exact ⟨h.a, h.f, h.b, h.c, hh, hl, h.h, h.l, h.sp, h.pc⟩ | exact ⟨h.a, h.f, h.b, h.c, h.d, h.e, hh, hl, h.sp, h.pc⟩ | exact ⟨h.a, h.f, h.b, h.c, h.d, h.e, h.h, h.l, hx, h.pc⟩ | exact ⟨hh, hf, h.b, h.c, h.d, h.e, h.h, h.l, h.sp, h.pc⟩
end Go.Proofs.YtjjemehigdpboaaGreat
namespace Go.Proofs.YtjjemehigdpboaaGreat
open Go Go.VV

structure CS where
  r : CR
  ime : Bool
  soon : Bool
  halt : Bool
  stop : Bool
deriving DecidableEq
def cS (s : CS) : List Value := cR s.r ++ [.bool s.ime, .bool s.soon, .bool s.halt, .bool s.stop]
structure Dd where
  what : Int
  n : Int
  at_ : Int
  op : Opr
  taken : Bool
def oN : Opr := ⟨0, 0, 0, 0, 0⟩
def cDd (d : Dd) : List Value := [.int .i64 d.what, .int .i64 d.n, .int .u16 d.at_] ++ cO d.op ++ [.bool d.taken]

/-- What a bus answers, and what it is then. -/
structure BusA (β : Type) where
  fetch : Int → β → Int × β
  read : Int → β → Int × β
  write : Int → Int → β → β
  idle : β → β
  pend : β → Int
  ack : Int → β → β
structure Rn (β : Type) where
  s : CS
  m : β
def inc16 (w : Int) : Int := (w + 1) % 65536
def dec16 (w : Int) : Int := (w - 1) % 65536
def resB (v n : Int) : Int := v - v / 2 ^ n.toNat % 2 * 2 ^ n.toNat
def setB (v n : Int) : Int := v + (1 - v / 2 ^ n.toNat % 2) * 2 ^ n.toNat
def sumR (r : CR) (k b : Int) : CR :=
  if k = 0 then { r with a := addR r.a b false, f := addF r.a b false } else if k = 1 then { r with a := addR r.a b (cF r.f), f := addF r.a b (cF r.f) }
  else if k = 2 then { r with a := subR r.a b false, f := subF r.a b false } else if k = 3 then { r with a := subR r.a b (cF r.f), f := subF r.a b (cF r.f) }
  else if k = 4 then { r with a := band .u8 r.a b, f := logF 0 (band .u8 r.a b) } else if k = 5 then { r with a := bxor .u8 r.a b, f := logF 2 (bxor .u8 r.a b) }
  else if k = 6 then { r with a := bor .u8 r.a b, f := logF 1 (bor .u8 r.a b) } else if k = 7 then { r with f := subF r.a b false } else r
section
variable {β : Type}
def Rn.reg (x : Rn β) (r : CR) : Rn β := ⟨{ x.s with r := r }, x.m⟩
def Rn.mem (x : Rn β) (m : β) : Rn β := ⟨x.s, m⟩
variable (A : BusA β)
def gett (n : Int) (x : Rn β) : Int × Rn β := if n = 6 then ((A.read (pairR x.s.r 2) x.m).1, x.mem (A.read (pairR x.s.r 2) x.m).2) else (getR x.s.r n, x)
def sett (n v : Int) (x : Rn β) : Rn β := if n = 6 then x.mem (A.write (pairR x.s.r 2) v x.m) else x.reg (setR x.s.r n v)
def push1 (v : Int) (x : Rn β) : Rn β := ⟨{ x.s with r := { x.s.r with sp := dec16 x.s.r.sp } }, A.write (dec16 x.s.r.sp) v x.m⟩
def push (w : Int) (x : Rn β) : Rn β := push1 A (w % 256) (push1 A (w / 256) x)
def pop1 (x : Rn β) : Int × Rn β := ((A.read x.s.r.sp x.m).1, ⟨{ x.s with r := { x.s.r with sp := inc16 x.s.r.sp } }, (A.read x.s.r.sp x.m).2⟩)
def pop (x : Rn β) : Int × Rn β := ((pop1 A (pop1 A x).2).1 * 256 + (pop1 A x).1, (pop1 A (pop1 A x).2).2)
def idles : Nat → Rn β → Rn β
  | 0, x => x
  | n + 1, x => (idles n x).mem (A.idle (idles n x).m)
def change (n : Int) (g : Int → Int → Int × Int) (x : Rn β) : Rn β :=
  let q := gett A n x
  let y := sett A n (g q.1 q.2.s.r.f).1 q.2
  y.reg { y.s.r with f := (g q.1 q.2.s.r.f).2 }
def far (n : Int) (x : Rn β) : Int × Rn β :=
  if n < 2 then (pairR x.s.r n, x) else (pairR x.s.r 2, x.reg (setPR x.s.r 2 (if n = 2 then inc16 (pairR x.s.r 2) else dec16 (pairR x.s.r 2))))
def goto (w : Int) (x : Rn β) : Rn β := x.reg { x.s.r with pc := w }
def isB (k : Int) : Bool := decide (k = 7 ∨ k = 8 ∨ (10 ≤ k ∧ k ≤ 13) ∨ (17 ≤ k ∧ k ≤ 22) ∨ (44 ≤ k ∧ k ≤ 46))
def effB (o : Opr) (x : Rn β) : Rn β :=
  if o.kind = 7 then sett A o.x (gett A o.y x).1 (gett A o.y x).2
  else if o.kind = 8 then sett A o.x (o.n % 256) x
  else if o.kind = 10 then (gett A o.y x).2.reg (sumR (gett A o.y x).2.s.r o.x (gett A o.y x).1)
  else if o.kind = 11 then x.reg (sumR x.s.r o.x (o.n % 256))
  else if o.kind = 12 then change A o.x (fun v f => (incR v, incF v f)) x
  else if o.kind = 13 then change A o.x (fun v f => (decR v, decF v f)) x
  else if o.kind = 17 then change A o.y (fun v f => (turnR o.x v f, turnF o.x v f)) x
  else if o.kind = 18 then x.reg { x.s.r with a := turnR o.x x.s.r.a x.s.r.f, f := fl false false false (turnO o.x x.s.r.a) }
  else if o.kind = 44 then (gett A o.y x).2.reg { (gett A o.y x).2.s.r with f := bitF o.x (gett A o.y x).1 x.s.r.f }
  else if o.kind = 45 then sett A o.y (resB (gett A o.y x).1 o.x) (gett A o.y x).2
  else if o.kind = 46 then sett A o.y (setB (gett A o.y x).1 o.x) (gett A o.y x).2
  else if o.kind = 19 then x.reg { x.s.r with a := daaR x.s.r.a x.s.r.f, f := daaF x.s.r.a x.s.r.f }
  else if o.kind = 20 then x.reg { x.s.r with a := 255 - x.s.r.a, f := fl (zF x.s.r.f) true true (cF x.s.r.f) }
  else if o.kind = 21 then x.reg { x.s.r with f := fl (zF x.s.r.f) false false true }
  else if o.kind = 22 then x.reg { x.s.r with f := fl (zF x.s.r.f) false false (!cF x.s.r.f) }
  else x
def isW (k : Int) : Bool := decide (k = 9 ∨ (14 ≤ k ∧ k ≤ 16) ∨ k = 30 ∨ k = 31 ∨ (40 ≤ k ∧ k ≤ 43))
def effW (o : Opr) (x : Rn β) : Rn β :=
  if o.kind = 9 then x.reg (setPR x.s.r o.x o.n)
  else if o.kind = 14 then idles A 1 (x.reg (setPR x.s.r o.x (inc16 (pairR x.s.r o.x))))
  else if o.kind = 15 then idles A 1 (x.reg (setPR x.s.r o.x (dec16 (pairR x.s.r o.x))))
  else if o.kind = 16 then idles A 1 (x.reg (setPR { x.s.r with f := add16F (pairR x.s.r 2) (pairR x.s.r o.x) x.s.r.f } 2 (add16R (pairR x.s.r 2) (pairR x.s.r o.x))))
  else if o.kind = 41 then idles A 2 (x.reg { x.s.r with sp := shR x.s.r.sp (o.n % 256), f := shF x.s.r.sp (o.n % 256) })
  else if o.kind = 42 then idles A 1 (x.reg (setPR { x.s.r with f := shF x.s.r.sp (o.n % 256) } 2 (shR x.s.r.sp (o.n % 256))))
  else if o.kind = 43 then idles A 1 (x.reg { x.s.r with sp := pairR x.s.r 2 })
  else if o.kind = 30 then push A (pairR (idles A 1 x).s.r o.x) (idles A 1 x)
  else if o.kind = 31 then (pop A x).2.reg (setPR (pop A x).2.s.r o.x (pop A x).1)
  else if o.kind = 40 then x.mem (A.write (inc16 o.n) (x.s.r.sp / 256) (A.write o.n (x.s.r.sp % 256) x.m))
  else x
def isP (k : Int) : Bool := decide (32 ≤ k ∧ k ≤ 39)
def place (o : Opr) (x : Rn β) : Int × Rn β :=
  if o.kind = 32 ∨ o.kind = 33 then far o.x x else if o.kind = 34 ∨ o.kind = 35 then (65280 + o.n % 256, x) else if o.kind = 36 ∨ o.kind = 37 then (65280 + x.s.r.c, x) else (o.n, x)
def effP (o : Opr) (x : Rn β) : Rn β :=
  let p := place o x
  if o.kind = 32 ∨ o.kind = 34 ∨ o.kind = 36 ∨ o.kind = 38 then ⟨{ p.2.s with r := { p.2.s.r with a := (A.read p.1 p.2.m).1 } }, (A.read p.1 p.2.m).2⟩
  else p.2.mem (A.write p.1 p.2.s.r.a p.2.m)
def metJ (o : Opr) (x : Rn β) : Bool := !(decide (23 ≤ o.kind ∧ o.kind ≤ 26)) || isR x.s.r o.x
def effJ (o : Opr) (x0 : Rn β) : Rn β :=
  let x := if o.kind = 26 ∧ o.x ≠ 4 then idles A 1 x0 else x0
  if metJ o x0 = false then x
  else if o.kind = 23 then goto ((x.s.r.pc + s8 (o.n % 256)) % 65536) (idles A 1 x)
  else if o.kind = 24 then goto o.n (idles A 1 x)
  else if o.kind = 25 ∨ o.kind = 28 then goto o.n (push A x.s.r.pc (idles A 1 x))
  else if o.kind = 27 then idles A 1 (goto (pop A ⟨{ x.s with ime := true }, x.m⟩).1 (pop A ⟨{ x.s with ime := true }, x.m⟩).2)
  else if o.kind = 26 then idles A 1 (goto (pop A x).1 (pop A x).2)
  else if o.kind = 29 then goto (pairR x.s.r 2) x
  else x
def ordT (o : Opr) (at_ : Int) (x : Rn β) : Bool × Rn β :=
  if o.kind = 2 then (true, ⟨{ x.s with stop := true }, x.m⟩)
  else if o.kind = 3 then (true, ⟨{ x.s with halt := true }, x.m⟩)
  else if o.kind = 4 then (true, goto at_ x)
  else if o.kind = 5 then (true, ⟨{ x.s with ime := false }, x.m⟩)
  else if o.kind = 6 then (true, ⟨{ x.s with soon := true }, x.m⟩)
  else if isB o.kind = true then (true, effB A o x)
  else if isW o.kind = true then (true, effW A o x)
  else if isP o.kind = true then (true, effP A o x)
  else (metJ o x, effJ A o x)
def fetch1 (x : Rn β) : Int × Rn β := ((A.fetch x.s.r.pc x.m).1, ⟨{ x.s with r := { x.s.r with pc := inc16 x.s.r.pc } }, (A.fetch x.s.r.pc x.m).2⟩)
/-- The order, and what is behind it, by how many bytes were fetched: the bytes so far, and what there is then. -/
structure Nx (β : Type) where
  b : List Int
  o : Opr
  x : Rn β
def nx1 (q : Nx β) (i : Nat) : Nx β :=
  let p := fetch1 A q.x
  let b := q.b.set i p.1
  ⟨b, dcd (b.getD 0 0) (b.getD 1 0) (b.getD 2 0), p.2⟩
def nx0 (x : Rn β) : Nx β := ⟨[0, 0, 0], ⟨0, 0, 0, 1, 0⟩, x⟩
def nxN (x : Rn β) : Nat → Nx β
  | 0 => nx0 x
  | n + 1 => nx1 A (nxN x n) n
def nextT (x : Rn β) : Opr × Rn β :=
  if ((nxN A x 1).o.size ≤ 1) then ((nxN A x 1).o, (nxN A x 1).x) else if ((nxN A x 2).o.size ≤ 2) then ((nxN A x 2).o, (nxN A x 2).x) else ((nxN A x 3).o, (nxN A x 3).x)
def low1 (p : Int) : Int := if p % 2 = 1 then 0 else if p / 2 % 2 = 1 then 1 else if p / 4 % 2 = 1 then 2 else if p / 8 % 2 = 1 then 3 else 4
def takeI (p : Int) (x : Rn β) : Rn β :=
  let y := push A x.s.r.pc (idles A 2 x)
  let z := idles A 1 (y.mem (A.ack (low1 p) y.m))
  ⟨{ z.s with ime := false, soon := false, r := { z.s.r with pc := 64 + 8 * low1 p } }, z.m⟩
def stepT (x : Rn β) : Dd × Rn β :=
  if x.s.stop = true then (⟨0, 0, x.s.r.pc, oN, false⟩, ⟨{ x.s with stop := A.pend (A.idle x.m) / 16 % 2 == 0 }, A.idle x.m⟩)
  else if x.s.halt = true ∧ A.pend x.m = 0 then (⟨0, 0, x.s.r.pc, oN, false⟩, x.mem (A.idle x.m))
  else
    let y : Rn β := ⟨{ x.s with halt := false }, x.m⟩
    if x.s.ime = true ∧ A.pend x.m ≠ 0 then (⟨2, low1 (A.pend x.m), x.s.r.pc, oN, false⟩, takeI A (A.pend x.m) y)
    else
      let q := nextT A ⟨{ y.s with soon := false }, y.m⟩
      let t := ordT A q.1 x.s.r.pc q.2
      (⟨1, 0, x.s.r.pc, q.1, t.1⟩, if x.s.soon = true ∧ q.1.kind ≠ 5 then ⟨{ t.2.s with ime := true }, t.2.m⟩ else t.2)
end
end Go.Proofs.YtjjemehigdpboaaGreat
