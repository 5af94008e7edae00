/- What a package variable that is laid holds, when the call begins: a row of numbers, or some error. -/
import Derived.FnData
import Derived.LaidHandle
import Derived.LaidMore
import Derived.MakeChecks
import Derived.OpenShut
import Derived.Test.YtiadmbhafplepaaDoorYB
import Derived.Test.YtiadmbhafplepaaDoorYC
namespace Go.VV
open Go Go.RowKit

theorem laid_find {P : Program} {w : World} : ∀ {l : List (String × DataW Unit)} {ps : List MemPlace}, DataW.LaidVars P w l ps → ∀ x ∈ l, ∃ g t cs fuel p, P.globalNamed x.1 = some g ∧ (P.globals[g]?).map (·.type) = some t ∧ w.var? P x.1 = some cs ∧ DataW.trod (fun _ => ()) P w 0 (fun _ => true) false fuel t cs.toList = some (x.2, p)
  | [], _, _, x, hx => by cases hx
  | (n, d) :: r, ps, h, x, hx => by
    obtain ⟨g, t, cs, fuel, p, q, h1, h2, h3, h4, h5, _⟩ := h
    rcases List.mem_cons.1 hx with rfl | hx
    · exact ⟨g, t, cs, fuel, p, h1, h2, h3, h4⟩
    · exact laid_find h5 x hx

theorem laid_ints {P : Program} {w : World} {laid : List (String × DataW Unit)} {ps : List MemPlace} (h : DataW.LaidVars P w laid ps) {n : String} {k : IntKind} {l : List Int} (hx : (n, DataW.agg (l.map fun i => .lit (.int k i))) ∈ laid)
    {g t m e : Nat} (hg : P.globalNamed n = some g) (ht : (P.globals[g]?).map (·.type) = some t) (hu : P.underlying t = some (.array m e)) (he : P.underlying e = some (.int k)) (hc : P.cellsOf e = 1) : Row w g 0 (l.map (.int k)) := by
  obtain ⟨g', t', cs, fuel, p, h1, h2, h3, h4⟩ := laid_find h _ hx
  obtain rfl := Option.some.inj (hg.symm.trans h1)
  obtain rfl := Option.some.inj (ht.symm.trans h2)
  obtain ⟨xs, m1, rfl, hx1, hlen, hn3, hel⟩ := DataW.trod_array hu h4
  simp only [Prod.mk.injEq, DataW.agg.injEq] at hx1
  intro j v hv
  rw [Nat.zero_add, World.var?_cell hg h3 j]
  rw [List.getElem?_map] at hv
  obtain ⟨i, hi, rfl⟩ := Option.map_eq_some_iff.1 hv
  have hxs : (xs.map (·.1))[j]? = some (.lit (.int k i)) := by rw [← hx1.1, List.getElem?_map, hi]; rfl
  rw [List.getElem?_map] at hxs
  obtain ⟨y, hy, hy1⟩ := Option.map_eq_some_iff.1 hxs
  have hj : j < m := by rw [← hn3]; exact (List.getElem?_eq_some_iff.1 hy).1
  have h0 := hel j hj
  rw [hy, hc, Nat.mul_one] at h0
  obtain ⟨x, e1, e2, _⟩ := DataW.trod_int he h0
  rw [e2] at hy1
  simp only [DataW.lit.injEq, Lit.int.injEq, true_and] at hy1
  subst hy1
  obtain ⟨c⟩ := cs
  rw [List.getElem?_toArray]
  have h5 : (c.drop j).take 1 = [.int k x] := e1
  have h6 : ((c.drop j).take 1)[0]? = some (.int k x) := by rw [h5]; rfl
  rw [List.getElem?_take, if_pos (by omega), List.getElem?_drop, Nat.add_zero] at h6
  exact h6

theorem laid_iface {P : Program} {w : World} {laid : List (String × DataW Unit)} {ps : List MemPlace} (h : DataW.LaidVars P w laid ps) {n nm : String} {d : DataW Unit} (hx : (n, DataW.iface nm d) ∈ laid)
    {g t : Nat} {ms : Array (String × TypeId)} (hg : P.globalNamed n = some g) (ht : (P.globals[g]?).map (·.type) = some t) (hu : P.underlying t = some (.interface ms)) : ∃ T v, w.cell? ⟨g, 0, none⟩ = some (.iface T v) := by
  obtain ⟨g', t', cs, fuel, p, h1, h2, h3, h4⟩ := laid_find h _ hx
  obtain rfl := Option.some.inj (hg.symm.trans h1)
  obtain rfl := Option.some.inj (ht.symm.trans h2)
  cases fuel with
  | zero => simp [DataW.trod] at h4
  | succ m =>
    rw [World.var?_cell hg h3 0]
    obtain ⟨c⟩ := cs
    unfold DataW.trod at h4
    rw [hu] at h4
    split at h4 <;> simp_all
/-- The same, as a whole. -/
theorem laid_tab {P : Program} {w : World} {laid : List (String × DataW Unit)} {ps : List MemPlace} (h : DataW.LaidVars P w laid ps) {n : String} {k : IntKind} {l : List Int} (hx : (n, DataW.agg (l.map fun i => .lit (.int k i))) ∈ laid)
    {g t m e : Nat} (hg : P.globalNamed n = some g) (ht : (P.globals[g]?).map (·.type) = some t) (hu : P.underlying t = some (.array m e)) (he : P.underlying e = some (.int k)) (hc : P.cellsOf e = 1) (hl : P.cellsOf t = l.length) : w.var? P n = some (l.map (.int k)).toArray := by
  have hr := laid_ints h hx hg ht hu he hc
  obtain ⟨g', t', cs, fuel, p, h1, h2, h3, h4⟩ := laid_find h _ hx
  obtain rfl := Option.some.inj (hg.symm.trans h1)
  obtain rfl := Option.some.inj (ht.symm.trans h2)
  obtain ⟨xs, m1, rfl, hx1, hlen, hn3, hel⟩ := DataW.trod_array hu h4
  rw [h3]
  obtain ⟨c⟩ := cs
  congr 1
  have hlen' : c.length = l.length := hlen.trans hl
  have : c = l.map (.int k) := by
    apply List.ext_getElem?
    intro j
    cases hj : (l.map (Value.int k))[j]? with
    | none => rw [List.getElem?_eq_none_iff, List.length_map] at hj; exact List.getElem?_eq_none (by omega)
    | some v =>
      have h5 := hr j v hj
      rw [Nat.zero_add, World.var?_cell hg h3 j] at h5
      simpa using h5
  rw [this]
end Go.VV
