/- Arguments that are rows of flat structs: what their cells are. Plain lemmas; no program. -/
import Derived.Test.YtjceoaomkbabmaaVvZ
import Derived.Test.YtjceoaomkbabmaaVvP
namespace Go.VV
open Go Go.ChangeShapes Go.WideShapes Go.ChangeAt Go.RowKit

/-- What a cell is. -/
inductive CK where
  | int (k : IntKind)
  | bool
  | str
def ckOk : CK → Value → Prop
  | .int k, v => ∃ n, v = .int k n ∧ (Lit.int k n).wf = true
  | .bool, v => ∃ b, v = .bool b
  | .str, v => ∃ s : ByteArray, v = .string s ∧ s.size ≤ maxLen
/-- Cell by cell. -/
def Cks : List CK → List Value → Prop
  | [], [] => True
  | k :: ks, v :: vs => ckOk k v ∧ Cks ks vs
  | _, _ => False
theorem Cks.app : ∀ {a b : List CK} {x y : List Value}, Cks a x → Cks b y → Cks (a ++ b) (x ++ y)
  | [], _, [], _, _, h => h
  | _ :: _, _, _ :: _, _, h, h2 => ⟨h.1, Cks.app h.2 h2⟩
  | [], _, _ :: _, _, h, _ => h.elim
  | _ :: _, _, [], _, h, _ => h.elim
theorem Cks.len : ∀ {a : List CK} {x : List Value}, Cks a x → a.length = x.length
  | [], [], _ => rfl
  | _ :: _, _ :: _, h => by simp [Cks.len h.2]
  | [], _ :: _, h => h.elim
  | _ :: _, [], h => h.elim

section
variable (P : Program)
def kindsF (f : TypeId → Option (List CK)) : List Field → Nat → Option (List CK)
  | [], _ => some []
  | fd :: r, off => match f fd.type with
    | some ks => bif Nat.beq fd.offset off && Nat.beq (P.cellsOf fd.type) ks.length then (match kindsF f r (off + ks.length) with
      | some rs => some (ks ++ rs)
      | none => none) else none
    | none => none
def kinds : Nat → TypeId → Option (List CK)
  | 0, _ => none
  | n + 1, t => match P.underlying t with
    | some (.int k) => some [.int k]
    | some .bool => some [.bool]
    | some .string => some [.str]
    | some (.struct ⟨fs⟩) => match kindsF P (kinds n) fs 0 with
      | some ks => bif Nat.beq (P.cellsOf t) ks.length then some ks else none
      | none => none
    | _ => none
end

section
variable {H : Type} {enc : TypeId × Value → H} {P : Program} {W : World} {base : Nat} {spare : Nat → Bool} {held : Bool}
theorem kindsF_ok {f : TypeId → Option (List CK)} {n : Nat} {cs : List Value} (hf : ∀ {t : TypeId} {ks : List CK} {xs : List Value} {y : DataW H × List MemPlace}, f t = some ks → DataW.trod enc P W base spare held n t xs = some y → Cks ks xs) :
    ∀ (fs : List Field) (off : Nat) (ks : List CK), kindsF P f fs off = some ks → (∀ fd ∈ fs, ∃ y, DataW.trod enc P W base spare held n fd.type ((cs.drop fd.offset).take (P.cellsOf fd.type)) = some y) → Cks ks ((cs.drop off).take ks.length)
  | [], off, ks, h, _ => by cases h; simp [Cks]
  | fd :: r, off, ks, h, hy => by
    simp only [kindsF] at h
    split at h
    · rename_i k1 hk1
      by_cases hb : (Nat.beq fd.offset off && Nat.beq (P.cellsOf fd.type) k1.length) = true
      · rw [hb, cond_true] at h
        simp only [Bool.and_eq_true] at hb
        have h1 := Nat.eq_of_beq_eq_true hb.1
        have h2 := Nat.eq_of_beq_eq_true hb.2
        split at h
        · rename_i rs hrs
          cases h
          obtain ⟨y, hy1⟩ := hy fd (.head _)
          have a1 := hf hk1 hy1
          have a2 := kindsF_ok hf r _ rs hrs fun g hg => hy g (.tail _ hg)
          rw [h1, h2] at a1
          rw [List.length_append, List.take_add, List.drop_drop]
          exact a1.app a2
        · cases h
      · simp only [Bool.not_eq_true] at hb
        rw [hb, cond_false] at h
        cases h
    · cases h
theorem kinds_ok : ∀ (m : Nat) {n : Nat} {t : TypeId} {ks : List CK} {cs : List Value} {y : DataW H × List MemPlace}, kinds P m t = some ks → DataW.trod enc P W base spare held n t cs = some y → Cks ks cs
  | 0, _, _, _, _, _, h, _ => by cases h
  | m + 1, n, t, ks, cs, y, h, hy => by
    simp only [kinds] at h
    split at h
    · rename_i k ht
      cases h
      obtain ⟨x, rfl, _, hw⟩ := DataW.trod_int ht hy
      exact ⟨⟨x, rfl, hw⟩, trivial⟩
    · rename_i ht
      cases h
      obtain ⟨b, rfl, _⟩ := DataW.trod_bool ht hy
      exact ⟨⟨b, rfl⟩, trivial⟩
    · rename_i ht
      cases h
      obtain ⟨s, rfl, _, hs⟩ := DataW.trod_string ht hy
      exact ⟨⟨s, rfl, hs⟩, trivial⟩
    · rename_i fs ht
      split at h
      · rename_i k1 hk1
        by_cases hb : Nat.beq (P.cellsOf t) k1.length = true
        · rw [hb, cond_true] at h
          cases h
          obtain ⟨xs, n', rfl, _, hl, hlen, hf⟩ := DataW.trod_struct ht hy
          have := kindsF_ok (cs := cs) (fun h1 h2 => kinds_ok m h1 h2) fs 0 _ hk1 (fun fd hfd => by
            obtain ⟨i, hi, rfl⟩ := List.getElem_of_mem hfd
            have h3 := hf i fs[i] (by simp [hi])
            have hi' : i < xs.length := by rw [hlen]; simpa using hi
            rw [List.getElem?_eq_getElem hi'] at h3
            exact ⟨_, h3⟩)
          rw [List.drop_zero, ← Nat.eq_of_beq_eq_true hb, ← hl, List.take_length] at this
          exact this
        · simp only [Bool.not_eq_true] at hb
          rw [hb, cond_false] at h
          cases h
      · cases h
    · cases h

theorem map_of {α β : Type} {f : β → α} {p : β → Prop} : ∀ {L : List α}, (∀ r ∈ L, ∃ s, r = f s ∧ p s) → ∃ l : List β, L = l.map f ∧ ∀ s ∈ l, p s
  | [], _ => ⟨[], rfl, fun _ h => by cases h⟩
  | r :: L, h => by
    obtain ⟨s, rfl, hs⟩ := h r (.head _)
    obtain ⟨l, rfl, hl⟩ := map_of (L := L) fun x hx => h x (.tail _ hx)
    exact ⟨s :: l, rfl, fun x hx => by rcases List.mem_cons.1 hx with rfl | hx; exact hs; exact hl x hx⟩

/-- A slice of flat elements that came in. -/
theorem arg_rows {α : Type} {r : Reach} {b0 : Nat} {t e : TypeId} {ks : List CK} {c : α → List Value} {p : α → Prop} (s : Nat) {v : Value} {d : DataW H} {q : List MemPlace} (ht : P.underlying t = some (.slice e)) (hk : kinds P 9 e = some ks) (hc : P.cellsOf e = s) (hs : Nat.blt 0 s = true)
    (hp : ∀ cs, Cks ks cs → ∃ x, cs = c x ∧ p x) (hv : Value.okWide P W r b0 t v) (h : DataW.Trod enc P W 0 (fun _ => true) true t v d q) :
    ∃ (a : Option Addr) (cp : Nat) (l : List α), v = .slice a l.length cp ∧ l.length ≤ cp ∧ l.length ≤ maxLen ∧ (∀ x ∈ l, p x) ∧ Els W c a l := by
  subst hc
  have hs : 0 < P.cellsOf e := Nat.lt_of_lt_of_le Nat.zero_lt_one (Nat.le_of_ble_eq_true hs)
  obtain ⟨a, len, cap, rfl⟩ := okWide_slice ht hv
  obtain ⟨fuel, hf⟩ := h
  rcases Deep.open_slice ht hf with ⟨hcs, _⟩ | ⟨x, l, c', m, n, D, Pl, hcs, _, hl, hm, hmm, _, hel⟩
  · simp [Value.cells] at hcs
    obtain ⟨rfl, rfl, rfl⟩ := hcs
    exact ⟨none, 0, [], rfl, Nat.le_refl _, Nat.zero_le _, fun _ h => (by cases h), Els.nil _ _ _⟩
  · simp [Value.cells] at hcs
    obtain ⟨rfl, rfl, rfl⟩ := hcs
    have hlm : len ≤ m := by rw [hmm]; split <;> omega
    have key : ∀ i, i < len → ∃ y : α, (∀ j, j < P.cellsOf e → W.cell? ((x.add (i * P.cellsOf e)).add j) = (c y)[j]?) ∧ (c y).length = P.cellsOf e ∧ p y := fun i hi => by
      obtain ⟨cs, h1, h2⟩ := hel i (by omega)
      obtain ⟨_, h3, h4⟩ := World.cells?_some h1
      obtain ⟨y, rfl, hy⟩ := hp cs (kinds_ok 9 hk h2)
      exact ⟨y, h4, h3, hy⟩
    have hne : ∀ i, i < len → ∃ y : Option α, ∃ z, y = some z ∧ (∀ j, j < P.cellsOf e → W.cell? ((x.add (i * P.cellsOf e)).add j) = (c z)[j]?) ∧ (c z).length = P.cellsOf e ∧ p z := fun i hi => by
      obtain ⟨y, h1⟩ := key i hi; exact ⟨some y, y, rfl, h1⟩
    obtain ⟨f, hfy⟩ := Deep.choose_lt hne
    have hex : ∀ o ∈ (List.range len).map f, ∃ z, o = some z ∧ p z := fun o ho => by
      obtain ⟨i, hi, rfl⟩ := List.mem_map.1 ho
      obtain ⟨z, h1, _, _, h4⟩ := hfy i (List.mem_range.1 hi)
      exact ⟨z, h1, h4⟩
    obtain ⟨L, hL, hLp⟩ := map_of hex
    have hlen : L.length = len := by
      have := congrArg List.length hL
      simpa using this.symm
    refine ⟨some x, cap, L, by rw [hlen], by omega, by omega, hLp, fun h0 => ?_⟩
    obtain ⟨b, off, spot⟩ := x
    have hg : ∀ i, (hi : i < L.length) → f i = some L[i] := fun i hi => by
      have h5 : ((List.range len).map f)[i]? = (L.map some)[i]? := by rw [hL]
      rw [List.getElem?_map, List.getElem?_map, List.getElem?_range (by omega), List.getElem?_eq_getElem hi] at h5
      simpa using h5
    have hcell : ∀ i j, (hi : i < L.length) → j < P.cellsOf e → W.cell? (((⟨b, off, spot⟩ : Addr).add (i * P.cellsOf e)).add j) = (c L[i])[j]? ∧ (c L[i]).length = P.cellsOf e := fun i j hi hj => by
      obtain ⟨z, h1, h2, h3, _⟩ := hfy i (by omega)
      have h6 := hg i hi
      rw [h1] at h6
      cases h6
      exact ⟨h2 j hj, h3⟩
    have hspot : spot = none := by
      obtain ⟨h7, h8⟩ := hcell 0 0 h0 hs
      rw [List.getElem?_eq_getElem (by omega)] at h7
      simpa [Addr.add] using World.cell?_spot h7
    subst hspot
    refine ⟨b, off, rfl, fun k v hv => ?_⟩
    have hcl : ∀ z ∈ L, (c z).length = P.cellsOf e := fun z hz => by
      obtain ⟨i, hi, rfl⟩ := List.getElem_of_mem hz
      exact (hcell i 0 hi hs).2
    -- the k-th cell lies in the (k / s)-th element
    have main : ∀ (L : List α) (o : Nat), (∀ i j, (hi : i < L.length) → j < P.cellsOf e → W.cell? ⟨b, o + (i * P.cellsOf e + j), none⟩ = (c L[i])[j]?) → (∀ z ∈ L, (c z).length = P.cellsOf e) → ∀ k v, (flat c L)[k]? = some v → W.cell? ⟨b, o + k, none⟩ = some v := by
      intro L
      induction L with
      | nil => intro o _ _ k v hv; simp [flat] at hv
      | cons z L ih =>
        intro o hc1 hc2 k v hv
        have hz := hc2 z (.head _)
        rw [flat_cons] at hv
        rcases Nat.lt_or_ge k (P.cellsOf e) with hk1 | hk1
        · rw [List.getElem?_append_left (by omega)] at hv
          have := hc1 0 k (by simp) hk1
          rw [Nat.zero_mul, Nat.zero_add] at this
          rw [this]; exact hv
        · rw [List.getElem?_append_right (by omega), hz] at hv
          have h9 := ih (o + P.cellsOf e) (fun i j hi hj => by
            have := hc1 (i + 1) j (by simpa using hi) hj
            rw [Nat.add_mul, Nat.one_mul] at this
            rw [show o + P.cellsOf e + (i * P.cellsOf e + j) = o + (i * P.cellsOf e + P.cellsOf e + j) by omega]
            exact this) (fun y hy => hc2 y (.tail _ hy)) (k - P.cellsOf e) v hv
          rw [show o + P.cellsOf e + (k - P.cellsOf e) = o + k by omega] at h9
          exact h9
    refine main L off (fun i j hi hj => ?_) hcl k v hv
    have := (hcell i j hi hj).1
    rw [add_mk, add_mk] at this
    rw [show off + (i * P.cellsOf e + j) = off + i * P.cellsOf e + j by omega]
    exact this

/-- A struct that came in by value. -/
theorem arg_flat {α : Type} {r : Reach} {b0 : Nat} {t : TypeId} {fs : Array Field} {ks : List CK} {c : α → List Value} {p : α → Prop} {v : Value} {d : DataW H} {q : List MemPlace} (ht : P.underlying t = some (.struct fs)) (hk : kinds P 9 t = some ks)
    (hp : ∀ cs, Cks ks cs → ∃ x, cs = c x ∧ p x) (hv : Value.okWide P W r b0 t v) (h : DataW.Trod enc P W base spare held t v d q) :
    ∃ x : α, v = .agg (c x).toArray ∧ p x := by
  obtain ⟨⟨cs⟩, rfl, _⟩ := okWide_struct ht hv
  obtain ⟨fuel, hf⟩ := h
  have h1 := kinds_ok 9 hk hf
  simp only [Value.cells] at h1
  obtain ⟨x, hx, hpx⟩ := hp _ h1
  exact ⟨x, by rw [← hx], hpx⟩
/-- A truth value that came in. -/
theorem arg_bool {r : Reach} {b0 : Nat} {t : TypeId} {v : Value} {d : DataW H} {q : List MemPlace} (ht : P.underlying t = some .bool) (hv : Value.okWide P W r b0 t v) (h : DataW.Trod enc P W base spare held t v d q) : ∃ b, v = .bool b := by
  obtain ⟨fuel, hf⟩ := h
  obtain ⟨b, hcs, _⟩ := DataW.trod_bool ht hf
  refine ⟨b, ?_⟩
  simp only [Value.okWide, ht, Cell.okWide] at hv
  cases v <;> simp_all [Cell.ok, Value.cells]
/-- A string that came in. -/
theorem arg_str {r : Reach} {b0 : Nat} {t : TypeId} {v : Value} {d : DataW H} {q : List MemPlace} (ht : P.underlying t = some .string) (hv : Value.okWide P W r b0 t v) (h : DataW.Trod enc P W base spare held t v d q) : ∃ s : ByteArray, v = .string s ∧ s.size ≤ maxLen := by
  obtain ⟨s, rfl⟩ := okWide_string ht hv
  obtain ⟨fuel, hf⟩ := h
  obtain ⟨s', hcs, _, hm⟩ := DataW.trod_string ht hf
  simp [Value.cells] at hcs
  subst hcs
  exact ⟨s, rfl, hm⟩
end
end Go.VV
