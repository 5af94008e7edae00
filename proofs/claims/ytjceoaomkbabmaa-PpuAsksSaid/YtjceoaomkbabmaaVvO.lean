/- Cells of a great block: what is stored where, in a list of several parts. Plain lemmas; no program. -/
import Derived.Test.YtjceoaomkbabmaaVvX
namespace Go.VV
open Go Go.RowKit

theorem putL_right {A B vs : List Value} {o n : Nat} (ho : o = A.length + n) (_h : n + vs.length ≤ B.length) : putL (A ++ B) o vs = A ++ putL B n vs := by
  subst ho
  unfold putL
  rw [List.take_append, List.drop_append, List.take_of_length_le (by omega), List.drop_of_length_le (by omega), List.nil_append, show A.length + n - A.length = n by omega, show A.length + n + vs.length - A.length = n + vs.length by omega]
  simp
theorem putL_left {A B vs : List Value} {o : Nat} (h : o + vs.length ≤ A.length) : putL (A ++ B) o vs = putL A o vs ++ B := by
  unfold putL
  rw [List.take_append_of_le_length (by omega), List.drop_append_of_le_length (by omega)]
  simp
/-- .. in a list of numbers. -/
def putI (l : List Int) (o : Nat) (vs : List Int) : List Int := l.take o ++ vs ++ l.drop (o + vs.length)
theorem putI_len {l vs : List Int} {o : Nat} (h : o + vs.length ≤ l.length) : (putI l o vs).length = l.length := by
  unfold putI; simp; omega
theorem putI_map (k : IntKind) (l vs : List Int) (o : Nat) : putL (l.map (.int k)) o (vs.map (.int k)) = (putI l o vs).map (.int k) := by
  unfold putL putI; simp [List.map_take, List.map_drop]
theorem putI_one {l : List Int} {o : Nat} (h : o < l.length) (x : Int) : putI l o [x] = l.set o x := by
  unfold putI
  rw [List.set_eq_take_append_cons_drop, if_pos h]
  simp
theorem putL_int {l : List Int} {o : Nat} (k : IntKind) (h : o < l.length) (x : Int) : putL (l.map (.int k)) o [.int k x] = (l.set o x).map (.int k) := by
  have := putI_map k l [x] o
  rw [putI_one h] at this
  exact this
theorem map_at {l : List Int} {k : IntKind} {j : Nat} (h : j < l.length) : (l.map (Value.int k))[j]? = some (.int k (l.getD j 0)) := by
  rw [List.getElem?_map, List.getElem?_eq_getElem h, List.getD_eq_getElem?_getD, List.getElem?_eq_getElem h]; rfl
theorem get_left {A B : List Value} {o : Nat} {v : Value} (h : A[o]? = some v) : (A ++ B)[o]? = some v := by
  have hl : o < A.length := (List.getElem?_eq_some_iff.1 h).1
  rw [List.getElem?_append_left hl]; exact h
theorem get_right {A B : List Value} {o n : Nat} {v : Value} (ho : o = A.length + n) (h : B[n]? = some v) : (A ++ B)[o]? = some v := by
  subst ho
  rw [List.getElem?_append_right (by omega)]
  simpa using h
theorem Row.right {w : World} {b off n : Nat} {A B : List Value} (h : Row w b off (A ++ B)) (hn : n = off + A.length) : Row w b n B := fun j v hv => by
  subst hn
  have := h (A.length + j) v (get_right rfl hv)
  rwa [← Nat.add_assoc] at this
section
variable {Γ : Ctx} {e : Env} {H : Heap} {d : Option Nat} {ty : TypeId} {pos : String} {af : Array Edge} {g : Option (Nat × Bool)}
/-- A store, and what the block is then. -/
theorem x_storeTo {t : TypeId} {x y : Operand} {b off : Nat} {v : Value} {vs l l' : List Value} {T : TypeId} (i : Nat)
    (hx : vnf (ev e x) = some (.pointer (some ⟨b, off, none⟩))) (hy : vnf (ev e y) = some v) (hv : cellsF v = some vs) (hn : sizeP Γ.P t = some vs.length) (h1 : ones vs = true)
    (hi : H[i]? = some (b, blk l T)) (hl : off + vs.length ≤ l.length) (hp : putL l off vs = l') :
    Op1 Γ ⟨d, .store t x y, ty, pos, af, g⟩ e H (fun u H' => u = undef ∧ H' = H.set i (b, blk l' T)) := by
  subst hp
  exact x_store i hx hy hv hn h1 hi hl
end
end Go.VV
