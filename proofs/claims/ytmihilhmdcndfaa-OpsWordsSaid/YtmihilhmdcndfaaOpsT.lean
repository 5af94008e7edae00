/- The table of orders. Plain lists. -/
import Derived.Test.YtmihilhmdcndfaaOpsA
namespace Go.Proofs.Ytmihilhmdcndfaa
open Go Go.VV

structure Pq where
  at_ : Nat
  by_ : Nat
  many : Nat
  kind : Int
  size : Int
  x : Option (List Int)

def PL : List Pq := [⟨0, 1, 1, 1, 1, none⟩, ⟨8, 1, 1, 40, 3, none⟩, ⟨16, 1, 1, 2, 2, none⟩, ⟨24, 1, 1, 23, 2, some [4]⟩, ⟨32, 8, 4, 23, 2, some [0, 1, 2, 3]⟩, ⟨1, 16, 4, 9, 3, some [0, 1, 2, 3]⟩, ⟨9, 16, 4, 16, 1, some [0, 1, 2, 3]⟩, ⟨2, 16, 4, 33, 1, some [0, 1, 2, 3]⟩, ⟨10, 16, 4, 32, 1, some [0, 1, 2, 3]⟩, ⟨3, 16, 4, 14, 1, some [0, 1, 2, 3]⟩, ⟨11, 16, 4, 15, 1, some [0, 1, 2, 3]⟩, ⟨4, 8, 8, 12, 1, some [0, 1, 2, 3, 4, 5, 6, 7]⟩, ⟨5, 8, 8, 13, 1, some [0, 1, 2, 3, 4, 5, 6, 7]⟩, ⟨6, 8, 8, 8, 2, some [0, 1, 2, 3, 4, 5, 6, 7]⟩, ⟨7, 8, 4, 18, 1, some [0, 1, 2, 3]⟩, ⟨39, 1, 1, 19, 1, none⟩, ⟨47, 1, 1, 20, 1, none⟩, ⟨55, 1, 1, 21, 1, none⟩, ⟨63, 1, 1, 22, 1, none⟩, ⟨192, 8, 4, 26, 1, some [0, 1, 2, 3]⟩, ⟨224, 1, 1, 35, 2, none⟩, ⟨232, 1, 1, 41, 2, none⟩, ⟨240, 1, 1, 34, 2, none⟩, ⟨248, 1, 1, 42, 2, none⟩, ⟨193, 16, 4, 31, 1, some [0, 1, 2, 4]⟩, ⟨197, 16, 4, 30, 1, some [0, 1, 2, 4]⟩, ⟨201, 1, 1, 26, 1, some [4]⟩, ⟨217, 1, 1, 27, 1, none⟩, ⟨233, 1, 1, 29, 1, none⟩, ⟨249, 1, 1, 43, 1, none⟩, ⟨194, 8, 4, 24, 3, some [0, 1, 2, 3]⟩, ⟨226, 1, 1, 37, 1, none⟩, ⟨234, 1, 1, 39, 3, none⟩, ⟨242, 1, 1, 36, 1, none⟩, ⟨250, 1, 1, 38, 3, none⟩, ⟨195, 1, 1, 24, 3, some [4]⟩, ⟨243, 1, 1, 5, 1, none⟩, ⟨251, 1, 1, 6, 1, none⟩, ⟨196, 8, 4, 25, 3, some [0, 1, 2, 3]⟩, ⟨205, 1, 1, 25, 3, some [4]⟩, ⟨198, 8, 8, 11, 2, some [0, 1, 2, 3, 4, 5, 6, 7]⟩]
def tabP : List Opr := [⟨1, 0, 0, 1, 0⟩, ⟨9, 0, 0, 3, 0⟩, ⟨33, 0, 0, 1, 0⟩, ⟨14, 0, 0, 1, 0⟩, ⟨12, 0, 0, 1, 0⟩, ⟨13, 0, 0, 1, 0⟩, ⟨8, 0, 0, 2, 0⟩, ⟨18, 0, 0, 1, 0⟩, ⟨40, 0, 0, 3, 0⟩, ⟨16, 0, 0, 1, 0⟩, ⟨32, 0, 0, 1, 0⟩, ⟨15, 0, 0, 1, 0⟩, ⟨12, 1, 0, 1, 0⟩, ⟨13, 1, 0, 1, 0⟩, ⟨8, 1, 0, 2, 0⟩, ⟨18, 1, 0, 1, 0⟩, ⟨2, 0, 0, 2, 0⟩, ⟨9, 1, 0, 3, 0⟩, ⟨33, 1, 0, 1, 0⟩, ⟨14, 1, 0, 1, 0⟩, ⟨12, 2, 0, 1, 0⟩, ⟨13, 2, 0, 1, 0⟩, ⟨8, 2, 0, 2, 0⟩, ⟨18, 2, 0, 1, 0⟩, ⟨23, 4, 0, 2, 0⟩, ⟨16, 1, 0, 1, 0⟩, ⟨32, 1, 0, 1, 0⟩, ⟨15, 1, 0, 1, 0⟩, ⟨12, 3, 0, 1, 0⟩, ⟨13, 3, 0, 1, 0⟩, ⟨8, 3, 0, 2, 0⟩, ⟨18, 3, 0, 1, 0⟩, ⟨23, 0, 0, 2, 0⟩, ⟨9, 2, 0, 3, 0⟩, ⟨33, 2, 0, 1, 0⟩, ⟨14, 2, 0, 1, 0⟩, ⟨12, 4, 0, 1, 0⟩, ⟨13, 4, 0, 1, 0⟩, ⟨8, 4, 0, 2, 0⟩, ⟨19, 0, 0, 1, 0⟩, ⟨23, 1, 0, 2, 0⟩, ⟨16, 2, 0, 1, 0⟩, ⟨32, 2, 0, 1, 0⟩, ⟨15, 2, 0, 1, 0⟩, ⟨12, 5, 0, 1, 0⟩, ⟨13, 5, 0, 1, 0⟩, ⟨8, 5, 0, 2, 0⟩, ⟨20, 0, 0, 1, 0⟩, ⟨23, 2, 0, 2, 0⟩, ⟨9, 3, 0, 3, 0⟩, ⟨33, 3, 0, 1, 0⟩, ⟨14, 3, 0, 1, 0⟩, ⟨12, 6, 0, 1, 0⟩, ⟨13, 6, 0, 1, 0⟩, ⟨8, 6, 0, 2, 0⟩, ⟨21, 0, 0, 1, 0⟩, ⟨23, 3, 0, 2, 0⟩, ⟨16, 3, 0, 1, 0⟩, ⟨32, 3, 0, 1, 0⟩, ⟨15, 3, 0, 1, 0⟩, ⟨12, 7, 0, 1, 0⟩, ⟨13, 7, 0, 1, 0⟩, ⟨8, 7, 0, 2, 0⟩, ⟨22, 0, 0, 1, 0⟩, ⟨7, 0, 0, 1, 0⟩, ⟨7, 0, 1, 1, 0⟩, ⟨7, 0, 2, 1, 0⟩, ⟨7, 0, 3, 1, 0⟩, ⟨7, 0, 4, 1, 0⟩, ⟨7, 0, 5, 1, 0⟩, ⟨7, 0, 6, 1, 0⟩, ⟨7, 0, 7, 1, 0⟩, ⟨7, 1, 0, 1, 0⟩, ⟨7, 1, 1, 1, 0⟩, ⟨7, 1, 2, 1, 0⟩, ⟨7, 1, 3, 1, 0⟩, ⟨7, 1, 4, 1, 0⟩, ⟨7, 1, 5, 1, 0⟩, ⟨7, 1, 6, 1, 0⟩, ⟨7, 1, 7, 1, 0⟩, ⟨7, 2, 0, 1, 0⟩, ⟨7, 2, 1, 1, 0⟩, ⟨7, 2, 2, 1, 0⟩, ⟨7, 2, 3, 1, 0⟩, ⟨7, 2, 4, 1, 0⟩, ⟨7, 2, 5, 1, 0⟩, ⟨7, 2, 6, 1, 0⟩, ⟨7, 2, 7, 1, 0⟩, ⟨7, 3, 0, 1, 0⟩, ⟨7, 3, 1, 1, 0⟩, ⟨7, 3, 2, 1, 0⟩, ⟨7, 3, 3, 1, 0⟩, ⟨7, 3, 4, 1, 0⟩, ⟨7, 3, 5, 1, 0⟩, ⟨7, 3, 6, 1, 0⟩, ⟨7, 3, 7, 1, 0⟩, ⟨7, 4, 0, 1, 0⟩, ⟨7, 4, 1, 1, 0⟩, ⟨7, 4, 2, 1, 0⟩, ⟨7, 4, 3, 1, 0⟩, ⟨7, 4, 4, 1, 0⟩, ⟨7, 4, 5, 1, 0⟩, ⟨7, 4, 6, 1, 0⟩, ⟨7, 4, 7, 1, 0⟩, ⟨7, 5, 0, 1, 0⟩, ⟨7, 5, 1, 1, 0⟩, ⟨7, 5, 2, 1, 0⟩, ⟨7, 5, 3, 1, 0⟩, ⟨7, 5, 4, 1, 0⟩, ⟨7, 5, 5, 1, 0⟩, ⟨7, 5, 6, 1, 0⟩, ⟨7, 5, 7, 1, 0⟩, ⟨7, 6, 0, 1, 0⟩, ⟨7, 6, 1, 1, 0⟩, ⟨7, 6, 2, 1, 0⟩, ⟨7, 6, 3, 1, 0⟩, ⟨7, 6, 4, 1, 0⟩, ⟨7, 6, 5, 1, 0⟩, ⟨3, 0, 0, 1, 0⟩, ⟨7, 6, 7, 1, 0⟩, ⟨7, 7, 0, 1, 0⟩, ⟨7, 7, 1, 1, 0⟩, ⟨7, 7, 2, 1, 0⟩, ⟨7, 7, 3, 1, 0⟩, ⟨7, 7, 4, 1, 0⟩, ⟨7, 7, 5, 1, 0⟩, ⟨7, 7, 6, 1, 0⟩, ⟨7, 7, 7, 1, 0⟩, ⟨10, 0, 0, 1, 0⟩, ⟨10, 0, 1, 1, 0⟩, ⟨10, 0, 2, 1, 0⟩, ⟨10, 0, 3, 1, 0⟩, ⟨10, 0, 4, 1, 0⟩, ⟨10, 0, 5, 1, 0⟩, ⟨10, 0, 6, 1, 0⟩, ⟨10, 0, 7, 1, 0⟩, ⟨10, 1, 0, 1, 0⟩, ⟨10, 1, 1, 1, 0⟩, ⟨10, 1, 2, 1, 0⟩, ⟨10, 1, 3, 1, 0⟩, ⟨10, 1, 4, 1, 0⟩, ⟨10, 1, 5, 1, 0⟩, ⟨10, 1, 6, 1, 0⟩, ⟨10, 1, 7, 1, 0⟩, ⟨10, 2, 0, 1, 0⟩, ⟨10, 2, 1, 1, 0⟩, ⟨10, 2, 2, 1, 0⟩, ⟨10, 2, 3, 1, 0⟩, ⟨10, 2, 4, 1, 0⟩, ⟨10, 2, 5, 1, 0⟩, ⟨10, 2, 6, 1, 0⟩, ⟨10, 2, 7, 1, 0⟩, ⟨10, 3, 0, 1, 0⟩, ⟨10, 3, 1, 1, 0⟩, ⟨10, 3, 2, 1, 0⟩, ⟨10, 3, 3, 1, 0⟩, ⟨10, 3, 4, 1, 0⟩, ⟨10, 3, 5, 1, 0⟩, ⟨10, 3, 6, 1, 0⟩, ⟨10, 3, 7, 1, 0⟩, ⟨10, 4, 0, 1, 0⟩, ⟨10, 4, 1, 1, 0⟩, ⟨10, 4, 2, 1, 0⟩, ⟨10, 4, 3, 1, 0⟩, ⟨10, 4, 4, 1, 0⟩, ⟨10, 4, 5, 1, 0⟩, ⟨10, 4, 6, 1, 0⟩, ⟨10, 4, 7, 1, 0⟩, ⟨10, 5, 0, 1, 0⟩, ⟨10, 5, 1, 1, 0⟩, ⟨10, 5, 2, 1, 0⟩, ⟨10, 5, 3, 1, 0⟩, ⟨10, 5, 4, 1, 0⟩, ⟨10, 5, 5, 1, 0⟩, ⟨10, 5, 6, 1, 0⟩, ⟨10, 5, 7, 1, 0⟩, ⟨10, 6, 0, 1, 0⟩, ⟨10, 6, 1, 1, 0⟩, ⟨10, 6, 2, 1, 0⟩, ⟨10, 6, 3, 1, 0⟩, ⟨10, 6, 4, 1, 0⟩, ⟨10, 6, 5, 1, 0⟩, ⟨10, 6, 6, 1, 0⟩, ⟨10, 6, 7, 1, 0⟩, ⟨10, 7, 0, 1, 0⟩, ⟨10, 7, 1, 1, 0⟩, ⟨10, 7, 2, 1, 0⟩, ⟨10, 7, 3, 1, 0⟩, ⟨10, 7, 4, 1, 0⟩, ⟨10, 7, 5, 1, 0⟩, ⟨10, 7, 6, 1, 0⟩, ⟨10, 7, 7, 1, 0⟩, ⟨26, 0, 0, 1, 0⟩, ⟨31, 0, 0, 1, 0⟩, ⟨24, 0, 0, 3, 0⟩, ⟨24, 4, 0, 3, 0⟩, ⟨25, 0, 0, 3, 0⟩, ⟨30, 0, 0, 1, 0⟩, ⟨11, 0, 0, 2, 0⟩, ⟨28, 0, 0, 1, 0⟩, ⟨26, 1, 0, 1, 0⟩, ⟨26, 4, 0, 1, 0⟩, ⟨24, 1, 0, 3, 0⟩, ⟨4, 0, 0, 1, 0⟩, ⟨25, 1, 0, 3, 0⟩, ⟨25, 4, 0, 3, 0⟩, ⟨11, 1, 0, 2, 0⟩, ⟨28, 0, 0, 1, 8⟩, ⟨26, 2, 0, 1, 0⟩, ⟨31, 1, 0, 1, 0⟩, ⟨24, 2, 0, 3, 0⟩, ⟨4, 0, 0, 1, 0⟩, ⟨25, 2, 0, 3, 0⟩, ⟨30, 1, 0, 1, 0⟩, ⟨11, 2, 0, 2, 0⟩, ⟨28, 0, 0, 1, 16⟩, ⟨26, 3, 0, 1, 0⟩, ⟨27, 0, 0, 1, 0⟩, ⟨24, 3, 0, 3, 0⟩, ⟨4, 0, 0, 1, 0⟩, ⟨25, 3, 0, 3, 0⟩, ⟨4, 0, 0, 1, 0⟩, ⟨11, 3, 0, 2, 0⟩, ⟨28, 0, 0, 1, 24⟩, ⟨35, 0, 0, 2, 0⟩, ⟨31, 2, 0, 1, 0⟩, ⟨37, 0, 0, 1, 0⟩, ⟨4, 0, 0, 1, 0⟩, ⟨4, 0, 0, 1, 0⟩, ⟨30, 2, 0, 1, 0⟩, ⟨11, 4, 0, 2, 0⟩, ⟨28, 0, 0, 1, 32⟩, ⟨41, 0, 0, 2, 0⟩, ⟨29, 0, 0, 1, 0⟩, ⟨39, 0, 0, 3, 0⟩, ⟨4, 0, 0, 1, 0⟩, ⟨4, 0, 0, 1, 0⟩, ⟨4, 0, 0, 1, 0⟩, ⟨11, 5, 0, 2, 0⟩, ⟨28, 0, 0, 1, 40⟩, ⟨34, 0, 0, 2, 0⟩, ⟨31, 4, 0, 1, 0⟩, ⟨36, 0, 0, 1, 0⟩, ⟨5, 0, 0, 1, 0⟩, ⟨4, 0, 0, 1, 0⟩, ⟨30, 4, 0, 1, 0⟩, ⟨11, 6, 0, 2, 0⟩, ⟨28, 0, 0, 1, 48⟩, ⟨42, 0, 0, 2, 0⟩, ⟨43, 0, 0, 1, 0⟩, ⟨38, 0, 0, 3, 0⟩, ⟨6, 0, 0, 1, 0⟩, ⟨4, 0, 0, 1, 0⟩, ⟨4, 0, 0, 1, 0⟩, ⟨11, 7, 0, 2, 0⟩, ⟨28, 0, 0, 1, 56⟩]
def p1 (i : Nat) : Opr := if i / 64 = 1 then ⟨7, (i / 8 % 8 : Nat), (i % 8 : Nat), 1, 0⟩ else if i / 64 = 2 then ⟨10, (i / 8 % 8 : Nat), (i % 8 : Nat), 1, 0⟩ else ⟨4, 0, 0, 1, 0⟩
def b1 (i : Nat) : Opr := ⟨[17, 44, 45, 46].getD (i / 64) 0, (i / 8 % 8 : Nat), (i % 8 : Nat), 2, 0⟩
def qOp (q : Pq) (i : Nat) : Opr := ⟨q.kind, match q.x with
  | some x => x.getD i 0
  | none => 0, 0, q.size, 0⟩
def putN (q : Pq) (P : List Opr) (n : Nat) : List Opr := (List.range n).foldl (fun P i => P.set (q.at_ + q.by_ * i) (qOp q i)) P
def putQ (P : List Opr) (q : Pq) : List Opr := putN q P q.many
def rstP (P : List Opr) (n : Nat) : List Opr := (List.range n).foldl (fun P y => P.set (199 + 8 * y) ⟨28, 0, 0, 1, (8 * y : Nat)⟩) P
def okQ (q : Pq) : Bool := (List.range q.many).all (fun i => Nat.blt (q.at_ + q.by_ * i) 256) && Nat.ble q.many 8 && Nat.ble q.by_ 16 && (match q.x with
  | some x => Nat.beq x.length q.many
  | none => true)
theorem PL_ok : PL.all okQ = true := by decide
theorem PL_len : PL.length = 41 := rfl
def startP : List Opr := ((List.range 256).map p1).set 118 ⟨3, 0, 0, 1, 0⟩
def tabB : List Opr := (List.range 256).map b1
theorem tab_eq : rstP (PL.foldl putQ startP) 8 = tabP := by kernel_rfl
theorem putN_zero (q : Pq) (P : List Opr) : putN q P 0 = P := rfl
theorem rstP_zero (P : List Opr) : rstP P 0 = P := rfl
theorem putN_succ (q : Pq) (P : List Opr) (n : Nat) : putN q P (n + 1) = (putN q P n).set (q.at_ + q.by_ * n) (qOp q n) := by simp [putN, List.range_succ]
theorem rstP_succ (P : List Opr) (n : Nat) : rstP P (n + 1) = (rstP P n).set (199 + 8 * n) ⟨28, 0, 0, 1, (8 * n : Nat)⟩ := by simp [rstP, List.range_succ]
theorem putN_len (q : Pq) (P : List Opr) (n : Nat) : (putN q P n).length = P.length := by
  induction n with
  | zero => rfl
  | succ n ih => rw [putN_succ, List.length_set, ih]
theorem rstP_len (P : List Opr) (n : Nat) : (rstP P n).length = P.length := by
  induction n with
  | zero => rfl
  | succ n ih => rw [rstP_succ, List.length_set, ih]
theorem foldQ_len (l : List Pq) (P : List Opr) : (l.foldl putQ P).length = P.length := by
  induction l generalizing P with
  | nil => rfl
  | cons q l ih => rw [List.foldl_cons, ih, putQ, putN_len]
theorem startP_len : startP.length = 256 := by simp [startP]
theorem foldQ_take {k : Nat} {q : Pq} (h : PL[k]? = some q) (P : List Opr) : (PL.take (k + 1)).foldl putQ P = putQ ((PL.take k).foldl putQ P) q := by
  rw [get_part h, List.foldl_append]; rfl
theorem okQ_spec {q : Pq} (h : okQ q = true) : (∀ i, i < q.many → q.at_ + q.by_ * i < 256) ∧ q.many ≤ 8 ∧ q.by_ ≤ 16 ∧ ∀ x, q.x = some x → x.length = q.many := by
  simp only [okQ, Bool.and_eq_true, List.all_eq_true, List.mem_range] at h
  obtain ⟨⟨⟨h1, h2⟩, h3⟩, h4⟩ := h
  refine ⟨fun i hi => Nat.lt_of_lt_of_le (Nat.lt_succ_self _) (Nat.le_of_ble_eq_true (h1 i hi)), Nat.le_of_ble_eq_true h2, Nat.le_of_ble_eq_true h3, fun x hx => ?_⟩
  rw [hx] at h4
  exact Nat.eq_of_beq_eq_true h4
theorem okQ_at {k : Nat} {q : Pq} (h : PL[k]? = some q) : okQ q = true := List.all_eq_true.1 PL_ok q (List.mem_of_getElem? h)

/-! ### a row of 256 that is filled place by place -/
theorem set_take {α : Type} {P : List α} {j : Nat} (h : j < P.length) (x : α) : (P.set j x).take (j + 1) = P.take j ++ [x] := by
  rw [List.set_eq_take_append_cons_drop, if_pos h, List.take_append, List.length_take, Nat.min_eq_left (by omega), Nat.add_sub_cancel_left, List.take_take]
  rw [Nat.min_eq_right (by omega)]; rfl
structure Filled (f : Nat → Opr) (P : List Opr) (j : Nat) : Prop where
  len : P.length = 256
  part : P.take j = (List.range j).map f
theorem Filled.start (f : Nat → Opr) {P : List Opr} (h : P.length = 256) : Filled f P 0 := ⟨h, by simp⟩
theorem Filled.step {f : Nat → Opr} {P : List Opr} {j : Nat} (h : Filled f P j) (hj : j < 256) : Filled f (P.set j (f j)) (j + 1) :=
  ⟨by rw [List.length_set, h.len], by rw [set_take (by rw [h.len]; exact hj), h.part, List.range_succ, List.map_append]; rfl⟩
theorem Filled.all {f : Nat → Opr} {P : List Opr} (h : Filled f P 256) : P = (List.range 256).map f := by
  have := h.part
  rwa [List.take_of_length_le (by rw [h.len]; exact Nat.le_refl _)] at this
theorem set_twice {P : List Opr} {j : Nat} (x y : Opr) : (P.set j x).set j y = P.set j y := List.set_set ..

/-! ### how it stands in memory -/
def tabL (u1 u2 u3 : Value) (P B : List Opr) : List Value := u1 :: u2 :: u3 :: (flat cO P ++ flat cO B)
section
variable {u1 u2 u3 : Value} {P B : List Opr}
theorem tabL_len (hP : P.length = 256) (hB : B.length = 256) : (tabL u1 u2 u3 P B).length = 2563 := by
  simp [tabL, flat_len cO_len, hP, hB]
theorem putL_set {α : Type} {c : α → List Value} {s : Nat} (hc : ∀ x, (c x).length = s) (X : List Value) (l : List α) (Z : List Value) {i : Nat} (hi : i < l.length) (y : α) : putL (X ++ (flat c l ++ Z)) (X.length + i * s) (c y) = X ++ (flat c (l.set i y) ++ Z) := by
  have h1 : l = l.take i ++ l[i] :: l.drop (i + 1) := split_at hi
  have h2 : l.set i y = l.take i ++ y :: l.drop (i + 1) := by rw [List.set_eq_take_append_cons_drop, if_pos hi]
  have hl : (X ++ flat c (l.take i)).length = X.length + i * s := by rw [List.length_append, flat_len hc, List.length_take, Nat.min_eq_left (by omega)]
  have h := putL_mid (X ++ flat c (l.take i)) (c l[i]) (flat c (l.drop (i + 1)) ++ Z) (c y) (by rw [hc, hc])
  rw [hl] at h
  have e1 : X ++ (flat c l ++ Z) = X ++ flat c (l.take i) ++ (c l[i] ++ (flat c (l.drop (i + 1)) ++ Z)) := by
    conv => lhs; rw [h1]
    rw [flat_append, flat_cons]; simp only [List.append_assoc]
  have e2 : X ++ (flat c (l.set i y) ++ Z) = X ++ flat c (l.take i) ++ (c y ++ (flat c (l.drop (i + 1)) ++ Z)) := by
    rw [h2, flat_append, flat_cons]; simp only [List.append_assoc]
  rw [e1, e2]; exact h
theorem tabL_setP (hP : P.length = 256) {i : Nat} (hi : i < 256) (x : Opr) : putL (tabL u1 u2 u3 P B) (3 + i * 5) (cO x) = tabL u1 u2 u3 (P.set i x) B :=
  putL_set cO_len [u1, u2, u3] P (flat cO B) (by omega) x
theorem tabL_setB (hP : P.length = 256) (hB : B.length = 256) {i : Nat} (hi : i < 256) (x : Opr) : putL (tabL u1 u2 u3 P B) (1283 + i * 5) (cO x) = tabL u1 u2 u3 P (B.set i x) := by
  have h := putL_set cO_len (u1 :: u2 :: u3 :: flat cO P) B [] (i := i) (by omega) x
  have hl : (u1 :: u2 :: u3 :: flat cO P).length = 1283 := by simp [flat_len cO_len, hP]
  rw [hl] at h
  simpa [tabL] using h
theorem tabL_rowP {w : World} {b : Nat} (h : Row w b 0 (tabL u1 u2 u3 P B)) {i : Nat} {x : Opr} (hi : P[i]? = some x) : Row w b (3 + i * 5) (cO x) := by
  have h1 : Row w b 3 (flat cO P ++ flat cO B) := fun j v hv => by
    have := h (3 + j) v (by rw [Nat.add_comm]; exact hv)
    rwa [Nat.zero_add] at this
  exact Row.nth' cO_len h1.left hi
theorem tabL_rowB {w : World} {b : Nat} (hP : P.length = 256) (h : Row w b 0 (tabL u1 u2 u3 P B)) {i : Nat} {x : Opr} (hi : B[i]? = some x) : Row w b (1283 + i * 5) (cO x) := by
  have h1 : Row w b 1283 (flat cO B) := fun j v hv => by
    have := h (1283 + j) v (by
      have e : tabL u1 u2 u3 P B = (u1 :: u2 :: u3 :: flat cO P) ++ flat cO B := by simp [tabL]
      have hl : (u1 :: u2 :: u3 :: flat cO P).length = 1283 := by simp [flat_len cO_len, hP]
      rw [e, List.getElem?_append_right (by omega), hl, Nat.add_sub_cancel_left]; exact hv)
    rwa [Nat.zero_add] at this
  exact Row.nth' cO_len h1 hi
end

/-! ### what three bytes begin with -/
def numO (o : Opr) (b w : Int) : Opr := { o with n := if o.size = 2 then b else if o.size = 3 then w else o.n }
def behS (b : Int) : Opr := if b / 64 = 0 then ⟨17, b / 8 % 8, b % 8, 2, 0⟩ else ⟨43 + b / 64, b / 8 % 8, b % 8, 2, 0⟩
def dcd (a b c : Int) : Opr := if a = 203 then behS b else numO (tabP.getD a.toNat o0) b (b + 256 * c)
theorem beh_all : (List.range 256).all (fun b => decide (b1 b = behS (b : Nat))) = true := by kernel_rfl
theorem beh_at {b : Nat} (h : b < 256) : b1 b = behS (b : Nat) := by
  have := List.all_eq_true.1 beh_all b (List.mem_range.2 h)
  simpa using this
theorem tabB_get {b : Nat} (h : b < 256) : tabB[b]? = some (behS (b : Nat)) := by
  rw [← beh_at h, tabB, List.getElem?_map, List.getElem?_range h]; rfl
theorem tabP_len : tabP.length = 256 := by kernel_rfl
theorem tabP_get {a : Nat} (h : a < 256) : tabP[a]? = some (tabP.getD a o0) := by
  rw [List.getD_eq_getElem?_getD, List.getElem?_eq_getElem (by rw [tabP_len]; exact h)]; rfl
def lowS (y z : Int) : Opr :=
  if z = 0 then (if y = 0 then ⟨1, 0, 0, 1, 0⟩ else if y = 1 then ⟨40, 0, 0, 3, 0⟩ else if y = 2 then ⟨2, 0, 0, 2, 0⟩ else if y = 3 then ⟨23, 4, 0, 2, 0⟩ else ⟨23, y - 4, 0, 2, 0⟩)
  else if z = 1 then (if y % 2 = 0 then ⟨9, y / 2, 0, 3, 0⟩ else ⟨16, y / 2, 0, 1, 0⟩)
  else if z = 2 then ⟨33 - y % 2, y / 2, 0, 1, 0⟩
  else if z = 3 then ⟨14 + y % 2, y / 2, 0, 1, 0⟩
  else if z = 4 then ⟨12, y, 0, 1, 0⟩
  else if z = 5 then ⟨13, y, 0, 1, 0⟩
  else if z = 6 then ⟨8, y, 0, 2, 0⟩
  else if y < 4 then ⟨18, y, 0, 1, 0⟩ else ⟨15 + y, 0, 0, 1, 0⟩
def prS (p : Int) : Int := if p = 3 then 4 else p
def highS (y z : Int) : Opr :=
  if z = 0 then (if y = 4 then ⟨35, 0, 0, 2, 0⟩ else if y = 5 then ⟨41, 0, 0, 2, 0⟩ else if y = 6 then ⟨34, 0, 0, 2, 0⟩ else if y = 7 then ⟨42, 0, 0, 2, 0⟩ else ⟨26, y, 0, 1, 0⟩)
  else if z = 1 then (if y % 2 = 0 then ⟨31, prS (y / 2), 0, 1, 0⟩ else if y / 2 = 0 then ⟨26, 4, 0, 1, 0⟩ else if y / 2 = 1 then ⟨27, 0, 0, 1, 0⟩ else if y / 2 = 2 then ⟨29, 0, 0, 1, 0⟩ else ⟨43, 0, 0, 1, 0⟩)
  else if z = 2 then (if y = 4 then ⟨37, 0, 0, 1, 0⟩ else if y = 5 then ⟨39, 0, 0, 3, 0⟩ else if y = 6 then ⟨36, 0, 0, 1, 0⟩ else if y = 7 then ⟨38, 0, 0, 3, 0⟩ else ⟨24, y, 0, 3, 0⟩)
  else if z = 3 then (if y = 0 then ⟨24, 4, 0, 3, 0⟩ else if y = 6 then ⟨5, 0, 0, 1, 0⟩ else if y = 7 then ⟨6, 0, 0, 1, 0⟩ else ⟨4, 0, 0, 1, 0⟩)
  else if z = 4 then (if y < 4 then ⟨25, y, 0, 3, 0⟩ else ⟨4, 0, 0, 1, 0⟩)
  else if z = 5 then (if y % 2 = 0 then ⟨30, prS (y / 2), 0, 1, 0⟩ else if y / 2 = 0 then ⟨25, 4, 0, 3, 0⟩ else ⟨4, 0, 0, 1, 0⟩)
  else if z = 6 then ⟨11, y, 0, 2, 0⟩
  else if z = 7 then ⟨28, 0, 0, 1, 8 * y⟩ else ⟨4, 0, 0, 1, 0⟩
def highR (y z b w : Int) : Opr := if z = 3 ∧ y = 1 then behS b else numO (highS y z) b w
def refO (a b w : Int) : Opr :=
  if a / 64 = 0 then numO (lowS (a / 8 % 8) (a % 8)) b w
  else if a / 64 = 1 then (if a / 8 % 8 = 6 ∧ a % 8 = 6 then ⟨3, 0, 0, 1, 0⟩ else ⟨7, a / 8 % 8, a % 8, 1, 0⟩)
  else if a / 64 = 2 then ⟨10, a / 8 % 8, a % 8, 1, 0⟩ else highR (a / 8 % 8) (a % 8) b w
def refT (a : Nat) : Bool :=
  let x := a / 64; let y : Int := (a / 8 % 8 : Nat); let z : Int := (a % 8 : Nat)
  if x = 0 then decide (tabP.getD a o0 = lowS y z)
  else if x = 1 then decide (tabP.getD a o0 = if a / 8 % 8 = 6 ∧ a % 8 = 6 then ⟨3, 0, 0, 1, 0⟩ else ⟨7, y, z, 1, 0⟩)
  else if x = 2 then decide (tabP.getD a o0 = ⟨10, y, z, 1, 0⟩)
  else decide (a = 203 ∨ tabP.getD a o0 = highS y z)
theorem ref_all : (List.range 256).all refT = true := by kernel_rfl
theorem ref_eq {a b c : Int} (h0 : 0 ≤ a) (h : a < 256) : refO a b (b + 256 * c) = dcd a b c := by
  obtain ⟨m, rfl⟩ : ∃ m : Nat, a = m := ⟨a.toNat, by omega⟩
  have hm := List.all_eq_true.1 ref_all m (List.mem_range.2 (by omega))
  have hx : ((m : Int) / 64) = ((m / 64 : Nat) : Int) := by omega
  have hy : ((m : Int) / 8 % 8) = ((m / 8 % 8 : Nat) : Int) := by omega
  have hz : ((m : Int) % 8) = ((m % 8 : Nat) : Int) := by omega
  unfold refT at hm
  unfold refO dcd
  rw [hx, hy, hz, Int.toNat_natCast]
  by_cases h0 : m / 64 = 0
  · rw [if_pos h0] at hm
    rw [if_pos (by omega), if_neg (by omega), ← of_decide_eq_true hm]
  · rw [if_neg h0] at hm
    rw [if_neg (by omega)]
    by_cases h1 : m / 64 = 1
    · rw [if_pos h1] at hm
      rw [if_pos (show ((m / 64 : Nat) : Int) = 1 by omega)]
      by_cases hh : m / 8 % 8 = 6 ∧ m % 8 = 6
      · rw [if_pos hh] at hm
        rw [if_pos (show ((m / 8 % 8 : Nat) : Int) = 6 ∧ ((m % 8 : Nat) : Int) = 6 from ⟨by rw [hh.1]; rfl, by rw [hh.2]; rfl⟩), if_neg (show ¬ (m : Int) = 203 by omega), of_decide_eq_true hm]; rfl
      · rw [if_neg hh] at hm
        rw [if_neg (show ¬ (((m / 8 % 8 : Nat) : Int) = 6 ∧ ((m % 8 : Nat) : Int) = 6) from fun h => hh ⟨by have := h.1; omega, by have := h.2; omega⟩), if_neg (show ¬ (m : Int) = 203 by omega), of_decide_eq_true hm]; rfl
    · rw [if_neg h1] at hm
      rw [if_neg (by omega)]
      by_cases h2 : m / 64 = 2
      · rw [if_pos h2] at hm
        rw [if_pos (by omega), if_neg (by omega), of_decide_eq_true hm]; rfl
      · rw [if_neg h2] at hm
        rw [if_neg (by omega)]
        unfold highR
        by_cases hb : m = 203
        · subst hb; rfl
        · rw [if_neg (by omega), if_neg (by omega)]
          rcases of_decide_eq_true hm with h3 | h3
          · exact absurd h3 hb
          · rw [h3]
end Go.Proofs.Ytmihilhmdcndfaa