/- Append of an empty slice; one cell of an element turns. Plain lemmas; no program. -/
import Derived.Test.YtjceoaomkbabmaaVvW
namespace Go.VV
open Go Go.RowKit
section
variable {Γ : Ctx} {e : Env} {H : Heap} {d : Option Nat} {ty : TypeId} {pos : String} {af : Array Edge} {g : Option (Nat × Bool)}
/-- append(s, t..), t empty. -/
theorem x_appendZ {t : TypeId} {x y : Operand} {T s by_ : Nat} {a a2 : Option Addr} {n cp n2 c2 : Nat} {ts : Array TypeId}
    (hx : vnf (ev e x) = some (.slice a n cp)) (hy : vnf (ev e y) = some (.slice a2 n2 c2)) (h0 : n2 = 0) (hts : ts = #[t, t]) (hp : appP Γ.P t = some (T, s, by_)) (hn : n ≤ cp) :
    Op1 Γ ⟨d, .call ⟨.builtin .append, #[x, y], ts⟩, ty, pos, af, g⟩ e H (fun v' H' => v' = .slice a n cp ∧ H' = H) := by
  intro w hw
  subst hts h0
  have hx := vnf_eq hx
  have hy := vnf_eq hy
  unfold appP at hp
  split at hp <;> try cases hp
  rename_i el hu
  split at hp <;> try cases hp
  rename_i ti hti
  split at hp <;> try cases hp
  rename_i z hz
  split at hp <;> try cases hp
  have key : (Builtin.append_ #[t, t] ty #[.slice a n cp, .slice a2 0 c2]).run Γ.P w = .ok (.slice a n cp) w := by
    cases a <;> cases a2 <;> simp [Builtin.append_, run_underlying hu, sizeOf, typeInfo, hti, Builtin.lenOf, Builtin.firstCells, hn, storeCells, loadCells, loadCellsFrom]
  refine opW_run (v := .slice a n cp) (w' := w) ?_ ⟨_, hw, rfl, rfl⟩
  simp only [execOp, resolve, Sem.run_bind, Sem.run_pure, Result.andThen_ok, invoke, builtin, List.map_toArray, List.map_cons, List.map_nil, hx, hy, key]
end
section
variable {α : Type} {c : α → List Value} {s : Nat}
/-- One cell of one element. -/
theorem putL_cell (hc : ∀ x, (c x).length = s) (l : List α) (sp : List Value) {i j : Nat} {x y : α} {v : Value} (hi : l[i]? = some x) (hj : j < s) (hy : (c x).set j v = c y) : putL (flat c l ++ sp) (0 + i * s + j) [v] = flat c (l.set i y) ++ sp := by
  obtain ⟨hlt, hx⟩ := List.getElem?_eq_some_iff.1 hi
  have h1 : l = l.take i ++ l[i] :: l.drop (i + 1) := split_at hlt
  have h2 : l.set i y = l.take i ++ y :: l.drop (i + 1) := by rw [List.set_eq_take_append_cons_drop, if_pos hlt]
  rw [hx] at h1
  have hj' : j < (c x).length := by rw [hc]; exact hj
  have hxs : c x = (c x).take j ++ ([(c x)[j]] ++ (c x).drop (j + 1)) := by simp
  have hys : c y = (c x).take j ++ ([v] ++ (c x).drop (j + 1)) := by rw [← hy, List.set_eq_take_append_cons_drop, if_pos hj']; rfl
  have hl : (flat c (l.take i) ++ (c x).take j).length = 0 + i * s + j := by rw [List.length_append, flat_len hc, List.length_take, List.length_take, hc, Nat.min_eq_left (by omega), Nat.min_eq_left (by omega)]; omega
  have h := putL_mid (flat c (l.take i) ++ (c x).take j) [(c x)[j]] ((c x).drop (j + 1) ++ (flat c (l.drop (i + 1)) ++ sp)) [v] rfl
  rw [hl] at h
  have e1 : flat c l ++ sp = flat c (l.take i) ++ (c x).take j ++ ([(c x)[j]] ++ ((c x).drop (j + 1) ++ (flat c (l.drop (i + 1)) ++ sp))) := by
    conv => lhs; rw [h1]
    rw [flat_append, flat_cons]
    conv => lhs; rw [hxs]
    simp only [List.append_assoc]
  have e2 : flat c (l.set i y) ++ sp = flat c (l.take i) ++ (c x).take j ++ ([v] ++ ((c x).drop (j + 1) ++ (flat c (l.drop (i + 1)) ++ sp))) := by
    rw [h2, flat_append, flat_cons, hys]
    simp only [List.append_assoc]
  rw [e1, e2]; exact h
theorem flat_room (hc : ∀ x, (c x).length = s) (l : List α) (sp : List Value) {i j : Nat} (hi : i < l.length) (hj : j < s) : 0 + i * s + j + 1 ≤ (flat c l ++ sp).length := by
  rw [List.length_append, flat_len hc]
  have h1 : i * s + s ≤ l.length * s := by rw [← Nat.succ_mul]; exact Nat.mul_le_mul_right _ hi
  omega
end
end Go.VV
