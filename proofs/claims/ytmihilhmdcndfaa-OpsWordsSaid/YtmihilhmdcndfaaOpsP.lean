/- The plans of the table, as they stand in memory. Plain lists. -/
import Derived.Test.YtmihilhmdcndfaaOpsT
namespace Go.Proofs.Ytmihilhmdcndfaa
open Go Go.VV

structure Pl where
  at_ : Int
  by_ : Int
  many : Int
  kind : Int
  size : Int
  x : Value
def cPl (p : Pl) : List Value := [.int .i64 p.at_, .int .i64 p.by_, .int .i64 p.many, .int .i64 p.kind, .int .i64 p.size, p.x]
theorem cPl_len (p : Pl) : (cPl p).length = 6 := rfl
def PlOk (G : Heap) (p : Pl) (q : Pq) : Prop := p.at_ = q.at_ ∧ p.by_ = q.by_ ∧ p.many = q.many ∧ p.kind = q.kind ∧ p.size = q.size ∧ match q.x with
  | none => p.x = .slice none 0 0
  | some xs => ∃ b, p.x = .slice (some ⟨b, 0, none⟩) xs.length xs.length ∧ VV.RowsIn G b 0 (xs.map (Value.int .i64))
def PlsOk (G : Heap) : List Pl → List Pq → Prop
  | [], [] => True
  | p :: ps, q :: qs => PlOk G p q ∧ PlsOk G ps qs
  | _, _ => False
theorem PlsOk.get {G : Heap} : ∀ {ps : List Pl} {qs : List Pq} {k : Nat} {q : Pq}, PlsOk G ps qs → qs[k]? = some q → ∃ p, ps[k]? = some p ∧ PlOk G p q
  | [], [], _, _, _, h => by simp at h
  | p :: ps, q :: qs, 0, _, h, h1 => by
    simp only [List.getElem?_cons_zero, Option.some.injEq] at h1
    subst h1
    exact ⟨p, rfl, h.1⟩
  | p :: ps, q :: qs, k + 1, _, h, h1 => by
    rw [List.getElem?_cons_succ] at h1
    rw [List.getElem?_cons_succ]
    exact PlsOk.get h.2 h1
  | _ :: _, [], _, _, h, _ => h.elim
  | [], _ :: _, _, _, h, _ => h.elim
theorem rowsIn_mem {G : Heap} {b : Nat} {xs : List Value} {T : TypeId} (h : (b, blk xs T) ∈ G) : VV.RowsIn G b 0 xs := fun w hw => Row.all (w := w) (b := b) (hw _ h)
def plL (b4 b5 b6 b10 b48 b59 b65 : Nat) : List Pl := [⟨0, 1, 1, 1, 1, .slice none 0 0⟩, ⟨8, 1, 1, 40, 3, .slice none 0 0⟩, ⟨16, 1, 1, 2, 2, .slice none 0 0⟩, ⟨24, 1, 1, 23, 2, .slice (some ⟨b10, 0, none⟩) 1 1⟩, ⟨32, 8, 4, 23, 2, .slice (some ⟨b5, 0, none⟩) 4 4⟩, ⟨1, 16, 4, 9, 3, .slice (some ⟨b5, 0, none⟩) 4 4⟩, ⟨9, 16, 4, 16, 1, .slice (some ⟨b5, 0, none⟩) 4 4⟩, ⟨2, 16, 4, 33, 1, .slice (some ⟨b5, 0, none⟩) 4 4⟩, ⟨10, 16, 4, 32, 1, .slice (some ⟨b5, 0, none⟩) 4 4⟩, ⟨3, 16, 4, 14, 1, .slice (some ⟨b5, 0, none⟩) 4 4⟩, ⟨11, 16, 4, 15, 1, .slice (some ⟨b5, 0, none⟩) 4 4⟩, ⟨4, 8, 8, 12, 1, .slice (some ⟨b4, 0, none⟩) 8 8⟩, ⟨5, 8, 8, 13, 1, .slice (some ⟨b4, 0, none⟩) 8 8⟩, ⟨6, 8, 8, 8, 2, .slice (some ⟨b4, 0, none⟩) 8 8⟩, ⟨7, 8, 4, 18, 1, .slice (some ⟨b5, 0, none⟩) 4 4⟩, ⟨39, 1, 1, 19, 1, .slice none 0 0⟩, ⟨47, 1, 1, 20, 1, .slice none 0 0⟩, ⟨55, 1, 1, 21, 1, .slice none 0 0⟩, ⟨63, 1, 1, 22, 1, .slice none 0 0⟩, ⟨192, 8, 4, 26, 1, .slice (some ⟨b5, 0, none⟩) 4 4⟩, ⟨224, 1, 1, 35, 2, .slice none 0 0⟩, ⟨232, 1, 1, 41, 2, .slice none 0 0⟩, ⟨240, 1, 1, 34, 2, .slice none 0 0⟩, ⟨248, 1, 1, 42, 2, .slice none 0 0⟩, ⟨193, 16, 4, 31, 1, .slice (some ⟨b6, 0, none⟩) 4 4⟩, ⟨197, 16, 4, 30, 1, .slice (some ⟨b6, 0, none⟩) 4 4⟩, ⟨201, 1, 1, 26, 1, .slice (some ⟨b48, 0, none⟩) 1 1⟩, ⟨217, 1, 1, 27, 1, .slice none 0 0⟩, ⟨233, 1, 1, 29, 1, .slice none 0 0⟩, ⟨249, 1, 1, 43, 1, .slice none 0 0⟩, ⟨194, 8, 4, 24, 3, .slice (some ⟨b5, 0, none⟩) 4 4⟩, ⟨226, 1, 1, 37, 1, .slice none 0 0⟩, ⟨234, 1, 1, 39, 3, .slice none 0 0⟩, ⟨242, 1, 1, 36, 1, .slice none 0 0⟩, ⟨250, 1, 1, 38, 3, .slice none 0 0⟩, ⟨195, 1, 1, 24, 3, .slice (some ⟨b59, 0, none⟩) 1 1⟩, ⟨243, 1, 1, 5, 1, .slice none 0 0⟩, ⟨251, 1, 1, 6, 1, .slice none 0 0⟩, ⟨196, 8, 4, 25, 3, .slice (some ⟨b5, 0, none⟩) 4 4⟩, ⟨205, 1, 1, 25, 3, .slice (some ⟨b65, 0, none⟩) 1 1⟩, ⟨198, 8, 8, 11, 2, .slice (some ⟨b4, 0, none⟩) 8 8⟩]
theorem plL_ok {G : Heap} {b4 b5 b6 b10 b48 b59 b65 : Nat} (r4 : VV.RowsIn G b4 0 (([0, 1, 2, 3, 4, 5, 6, 7] : List Int).map (Value.int .i64))) (r5 : VV.RowsIn G b5 0 (([0, 1, 2, 3] : List Int).map (Value.int .i64)))
    (r6 : VV.RowsIn G b6 0 (([0, 1, 2, 4] : List Int).map (Value.int .i64))) (r10 : VV.RowsIn G b10 0 (([4] : List Int).map (Value.int .i64))) (r48 : VV.RowsIn G b48 0 (([4] : List Int).map (Value.int .i64)))
    (r59 : VV.RowsIn G b59 0 (([4] : List Int).map (Value.int .i64))) (r65 : VV.RowsIn G b65 0 (([4] : List Int).map (Value.int .i64))) : PlsOk G (plL b4 b5 b6 b10 b48 b59 b65) PL :=
  ⟨⟨rfl, rfl, rfl, rfl, rfl, rfl⟩, ⟨rfl, rfl, rfl, rfl, rfl, rfl⟩, ⟨rfl, rfl, rfl, rfl, rfl, rfl⟩, ⟨rfl, rfl, rfl, rfl, rfl, b10, rfl, r10⟩, ⟨rfl, rfl, rfl, rfl, rfl, b5, rfl, r5⟩, ⟨rfl, rfl, rfl, rfl, rfl, b5, rfl, r5⟩, ⟨rfl, rfl, rfl, rfl, rfl, b5, rfl, r5⟩, ⟨rfl, rfl, rfl, rfl, rfl, b5, rfl, r5⟩, ⟨rfl, rfl, rfl, rfl, rfl, b5, rfl, r5⟩, ⟨rfl, rfl, rfl, rfl, rfl, b5, rfl, r5⟩, ⟨rfl, rfl, rfl, rfl, rfl, b5, rfl, r5⟩, ⟨rfl, rfl, rfl, rfl, rfl, b4, rfl, r4⟩, ⟨rfl, rfl, rfl, rfl, rfl, b4, rfl, r4⟩, ⟨rfl, rfl, rfl, rfl, rfl, b4, rfl, r4⟩, ⟨rfl, rfl, rfl, rfl, rfl, b5, rfl, r5⟩, ⟨rfl, rfl, rfl, rfl, rfl, rfl⟩, ⟨rfl, rfl, rfl, rfl, rfl, rfl⟩, ⟨rfl, rfl, rfl, rfl, rfl, rfl⟩, ⟨rfl, rfl, rfl, rfl, rfl, rfl⟩, ⟨rfl, rfl, rfl, rfl, rfl, b5, rfl, r5⟩, ⟨rfl, rfl, rfl, rfl, rfl, rfl⟩, ⟨rfl, rfl, rfl, rfl, rfl, rfl⟩, ⟨rfl, rfl, rfl, rfl, rfl, rfl⟩, ⟨rfl, rfl, rfl, rfl, rfl, rfl⟩, ⟨rfl, rfl, rfl, rfl, rfl, b6, rfl, r6⟩, ⟨rfl, rfl, rfl, rfl, rfl, b6, rfl, r6⟩, ⟨rfl, rfl, rfl, rfl, rfl, b48, rfl, r48⟩, ⟨rfl, rfl, rfl, rfl, rfl, rfl⟩, ⟨rfl, rfl, rfl, rfl, rfl, rfl⟩, ⟨rfl, rfl, rfl, rfl, rfl, rfl⟩, ⟨rfl, rfl, rfl, rfl, rfl, b5, rfl, r5⟩, ⟨rfl, rfl, rfl, rfl, rfl, rfl⟩, ⟨rfl, rfl, rfl, rfl, rfl, rfl⟩, ⟨rfl, rfl, rfl, rfl, rfl, rfl⟩, ⟨rfl, rfl, rfl, rfl, rfl, rfl⟩, ⟨rfl, rfl, rfl, rfl, rfl, b59, rfl, r59⟩, ⟨rfl, rfl, rfl, rfl, rfl, rfl⟩, ⟨rfl, rfl, rfl, rfl, rfl, rfl⟩, ⟨rfl, rfl, rfl, rfl, rfl, b5, rfl, r5⟩, ⟨rfl, rfl, rfl, rfl, rfl, b65, rfl, r65⟩, ⟨rfl, rfl, rfl, rfl, rfl, b4, rfl, r4⟩, trivial⟩
theorem plL_len (b4 b5 b6 b10 b48 b59 b65 : Nat) : (plL b4 b5 b6 b10 b48 b59 b65).length = 41 := rfl
theorem qOp_none {q : Pq} (h : q.x = none) (i : Nat) : qOp q i = ⟨q.kind, 0, 0, q.size, 0⟩ := by unfold qOp; rw [h]
theorem qOp_some {q : Pq} {x : List Int} (h : q.x = some x) (i : Nat) : qOp q i = ⟨q.kind, x.getD i 0, 0, q.size, 0⟩ := by unfold qOp; rw [h]
theorem kind4 (m : Nat) (h : m < 4) : ([.int .i64 17, .int .i64 44, .int .i64 45, .int .i64 46] : List Value)[m]? = some (.int .i64 (([17, 44, 45, 46] : List Int).getD m 0)) := by
  match m, h with
  | 0, _ => rfl
  | 1, _ => rfl
  | 2, _ => rfl
  | 3, _ => rfl
theorem kind4' (m : Nat) (h : m < 4) : ([.int .i64 17, .int .i64 44, .int .i64 45, .int .i64 46] : List Value)[0 + m * 1]? = some (.int .i64 (([17, 44, 45, 46] : List Int).getD m 0)) := by
  rw [Nat.zero_add, Nat.mul_one]; exact kind4 m h
theorem shr_nat {i k : Nat} (h : k ≤ 64) : shr .i64 (i : Int) (k : Int) = ((i / 2 ^ k : Nat) : Int) := by
  unfold shr
  have e1 : min (k : Int).toNat IntKind.i64.bits = k := by
    have : IntKind.i64.bits = 64 := rfl
    rw [this]; omega
  rw [e1, Int.fdiv_eq_ediv_of_nonneg _ (Int.le_of_lt (Int.pow_pos (by decide)))]
  simp
theorem and7 {m : Nat} (h : m < 1000000) : band .i64 (m : Int) 7 = ((m % 8 : Nat) : Int) := by
  unfold band
  have h1 : (BitVec.ofInt IntKind.i64.bits (m : Int) &&& BitVec.ofInt IntKind.i64.bits 7).toNat = m % 8 := by
    have e1 : BitVec.ofInt IntKind.i64.bits (m : Int) = BitVec.ofNat 64 m := by simp [IntKind.bits]
    have e2 : BitVec.ofInt IntKind.i64.bits 7 = BitVec.ofNat 64 7 := rfl
    rw [e1, e2]
    have e3 : (BitVec.ofNat 64 m &&& BitVec.ofNat 64 7).toNat = (m % 18446744073709551616) &&& 7 := by simp
    have e4 : (m % 18446744073709551616) &&& 7 = m % 18446744073709551616 % 8 := Nat.and_two_pow_sub_one_eq_mod _ 3
    exact e3.trans (by rw [e4]; omega)
  rw [h1, wrap_i64 (by omega) (by omega)]
end Go.Proofs.Ytmihilhmdcndfaa
