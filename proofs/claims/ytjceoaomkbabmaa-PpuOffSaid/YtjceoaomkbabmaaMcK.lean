/- A copy, and what the block is then. Plain lemmas; no program. -/
import Derived.Test.YtjceoaomkbabmaaMcI
namespace Go.VV
open Go Go.RowKit
section
variable {Γ : Ctx} {e : Env} {H : Heap} {d : Option Nat} {t : TypeId} {pos : String} {af : Array Edge} {g : Option (Nat × Bool)}
theorem x_copyTo {x y : Operand} {ts : Array TypeId} {tx ty el : TypeId} {b off dl dc m : Nat} {u : Value} {l l' ys : List Value} {T : TypeId} (i : Nat)
    (hx : vnf (ev e x) = some (.slice (some ⟨b, off, none⟩) dl dc)) (hy : ev e y = u) (hts : ts = #[tx, ty]) (hu : slcP Γ.P tx = some (el, 1))
    (hi : H[i]? = some (b, blk l T)) (hs : ∀ w, St Γ.w0 Γ.ms H w → Src w 1 u m ys) (h1 : ones ys = true) (hl : off + min m dl ≤ l.length) (hp : putL l off (ys.take (min m dl)) = l') :
    Op1 Γ ⟨d, .call ⟨.builtin .copy, #[x, y], ts⟩, t, pos, af, g⟩ e H (fun v H' => v = .int .i64 (min m dl : Nat) ∧ H' = H.set i (b, blk l' T)) := by
  subst hp
  exact x_copy i hx hy hts hu hi hs h1 hl
end
theorem cut1_on {off l c : Nat} (h : c ≠ l) : cut1 off l c = off + l := by unfold cut1; rw [if_neg h]
/-- A row of numbers, from a place on. -/
theorem Row.dropK {k : IntKind} {w : World} {b off : Nat} {l : List Int} (h : Row w b off (l.map (.int k))) (n : Nat) : Row w b (off + n) ((l.drop n).map (.int k)) := fun j v hv => by
  have := h (n + j) v (by
    rw [List.getElem?_map, List.getElem?_drop] at hv
    rw [List.getElem?_map]; exact hv)
  rwa [← Nat.add_assoc] at this
theorem Row.takeK {k : IntKind} {w : World} {b off : Nat} {l : List Int} (h : Row w b off (l.map (.int k))) (n : Nat) : Row w b off ((l.take n).map (.int k)) := fun j v hv => h j v (by
  rw [List.getElem?_map, List.getElem?_take] at hv
  split at hv
  · rw [List.getElem?_map]; exact hv
  · simp at hv)
theorem putI_mid {A Z B : List Int} {n : Nat} (h : A.length = n) : putI (A ++ Z) n B = A ++ B ++ Z.drop B.length := by
  subst h
  unfold putI
  rw [List.take_left, List.drop_append]
  simp
theorem putI_all {l vs : List Int} (h : vs.length = l.length) : putI l 0 vs = vs := by
  unfold putI; simp [h]
theorem getD_drop (l : List Int) (n j : Nat) : (l.drop n).getD j 0 = l.getD (n + j) 0 := by simp [List.getD_eq_getElem?_getD, List.getElem?_drop]
theorem getD_take (l : List Int) {n j : Nat} (h : j < n) : (l.take n).getD j 0 = l.getD j 0 := by rw [List.getD_eq_getElem?_getD, List.getElem?_take_of_lt h, ← List.getD_eq_getElem?_getD]
end Go.VV
namespace Go.VV
open Go Go.RowKit
theorem any_at {l : List Int} {i : Nat} (hi : i < l.length) (h : 3 < l.getD i 0) : (l.any fun x => decide (3 < x)) = true := by
  rw [List.any_eq_true]
  refine ⟨l[i], List.getElem_mem hi, ?_⟩
  rw [List.getD_eq_getElem?_getD, List.getElem?_eq_getElem hi] at h
  simpa using h
theorem any_none {l : List Int} (h : ∀ j, j < l.length → ¬ 3 < l.getD j 0) : (l.any fun x => decide (3 < x)) = false := by
  rw [List.any_eq_false]
  intro x hx
  obtain ⟨i, hi, rfl⟩ := List.getElem_of_mem hx
  have := h i hi
  rw [List.getD_eq_getElem?_getD, List.getElem?_eq_getElem hi] at this
  simpa using this
theorem two_law {x y : Int} (hx : 0 ≤ x ∧ x < 256) (hy : 0 ≤ y ∧ y < 256) : bor .i64 x (256 * y) = x + 256 * y := by
  rw [bor_nat hx.1 (by show _ < (9223372036854775808 : Int); omega) (by omega) (by show _ < (9223372036854775808 : Int); omega)]
  have h1 : (256 * y).toNat = 2 ^ 8 * y.toNat := by omega
  rw [h1, Nat.or_comm, ← Nat.two_pow_add_eq_or_of_lt (by omega)]
  omega
end Go.VV
