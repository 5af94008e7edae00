/- Arguments that hold slices: structs with slices in them, slices of slices, rows of such structs. Append of zeros to a nil slice. Plain lemmas; no program. -/
import Derived.Test.YtjceoaomkbabmaaVvY
import Derived.Test.YtjceoaomkbabmaaVvV
import Derived.Test.YtjceoaomkbabmaaVvO
import Derived.Lib.AppendZeros
namespace Go.VV
open Go Go.ChangeShapes Go.WideShapes Go.ChangeAt Go.RowKit

/-- What a cell is: as CK, or a slice of numbers, or a slice of flat elements. -/
inductive KD where
  | int (k : IntKind)
  | bool
  | str
  | ints (k : IntKind)
  | rows (ks : List CK)
def kdOk (W : World) : KD → Value → Prop
  | .int k, v => ∃ n, v = .int k n ∧ (Lit.int k n).wf = true
  | .bool, v => ∃ b, v = .bool b
  | .str, v => ∃ s : ByteArray, v = .string s ∧ s.size ≤ maxLen
  | .ints k, v => ∃ (a : Option Addr) (c : Nat) (l : List Int), v = .slice a l.length c ∧ l.length ≤ c ∧ l.length ≤ maxLen ∧ (∀ x ∈ l, (Lit.int k x).wf = true) ∧ Ns W k a l
  | .rows ks, v => ∃ (a : Option Addr) (c : Nat) (l : List (List Value)), v = .slice a l.length c ∧ l.length ≤ c ∧ l.length ≤ maxLen ∧ (∀ x ∈ l, Cks ks x) ∧ Els W id a l
/-- Cell by cell. -/
def KDs (W : World) : List KD → List Value → Prop
  | [], [] => True
  | k :: ks, v :: vs => kdOk W k v ∧ KDs W ks vs
  | _, _ => False
theorem KDs.app {W : World} : ∀ {a b : List KD} {x y : List Value}, KDs W a x → KDs W b y → KDs W (a ++ b) (x ++ y)
  | [], _, [], _, _, h => h
  | _ :: _, _, _ :: _, _, h, h2 => ⟨h.1, KDs.app h.2 h2⟩
  | [], _, _ :: _, _, h, _ => h.elim
  | _ :: _, _, [], _, h, _ => h.elim
theorem KDs.len {W : World} : ∀ {a : List KD} {x : List Value}, KDs W a x → a.length = x.length
  | [], [], _ => rfl
  | _ :: _, _ :: _, h => by simp [KDs.len h.2]
  | [], _ :: _, h => h.elim
  | _ :: _, [], h => h.elim
theorem kd_i {W : World} {k : IntKind} {ks : List KD} {cs : List Value} (h : KDs W (.int k :: ks) cs) : ∃ n vs, cs = .int k n :: vs ∧ (Lit.int k n).wf = true ∧ KDs W ks vs := by
  cases cs with
  | nil => exact h.elim
  | cons v vs => obtain ⟨⟨n, rfl, hn⟩, h2⟩ := h; exact ⟨n, vs, rfl, hn, h2⟩
theorem kd_b {W : World} {ks : List KD} {cs : List Value} (h : KDs W (.bool :: ks) cs) : ∃ b vs, cs = .bool b :: vs ∧ KDs W ks vs := by
  cases cs with
  | nil => exact h.elim
  | cons v vs => obtain ⟨⟨n, rfl⟩, h2⟩ := h; exact ⟨n, vs, rfl, h2⟩
theorem kd_s {W : World} {ks : List KD} {cs : List Value} (h : KDs W (.str :: ks) cs) : ∃ s vs, cs = .string s :: vs ∧ s.size ≤ maxLen ∧ KDs W ks vs := by
  cases cs with
  | nil => exact h.elim
  | cons v vs => obtain ⟨⟨n, rfl, hn⟩, h2⟩ := h; exact ⟨n, vs, rfl, hn, h2⟩
theorem kd_is {W : World} {k : IntKind} {ks : List KD} {cs : List Value} (h : KDs W (.ints k :: ks) cs) :
    ∃ (a : Option Addr) (c : Nat) (l : List Int) (vs : List Value), cs = .slice a l.length c :: vs ∧ l.length ≤ c ∧ l.length ≤ maxLen ∧ (∀ x ∈ l, (Lit.int k x).wf = true) ∧ Ns W k a l ∧ KDs W ks vs := by
  cases cs with
  | nil => exact h.elim
  | cons v vs => obtain ⟨⟨a, c, l, rfl, h1, h2, h3, h4⟩, h5⟩ := h; exact ⟨a, c, l, vs, rfl, h1, h2, h3, h4, h5⟩
theorem kd_rs {W : World} {kk : List CK} {ks : List KD} {cs : List Value} (h : KDs W (.rows kk :: ks) cs) :
    ∃ (a : Option Addr) (c : Nat) (l : List (List Value)) (vs : List Value), cs = .slice a l.length c :: vs ∧ l.length ≤ c ∧ l.length ≤ maxLen ∧ (∀ x ∈ l, Cks kk x) ∧ Els W id a l ∧ KDs W ks vs := by
  cases cs with
  | nil => exact h.elim
  | cons v vs => obtain ⟨⟨a, c, l, rfl, h1, h2, h3, h4⟩, h5⟩ := h; exact ⟨a, c, l, vs, rfl, h1, h2, h3, h4, h5⟩
theorem kd_0 {W : World} {cs : List Value} (h : KDs W [] cs) : cs = [] := by
  cases cs with
  | nil => rfl
  | cons v vs => exact h.elim
/-- Rows of cells as rows of what they are. -/
theorem els_map {α : Type} {c : α → List Value} {W : World} {a : Option Addr} {l : List (List Value)} {p : α → Prop} {q : List Value → Prop} (hq : ∀ x ∈ l, q x) (hp : ∀ cs, q cs → ∃ x, cs = c x ∧ p x) (h : Els W id a l) :
    ∃ L : List α, L.length = l.length ∧ (∀ x ∈ L, p x) ∧ Els W c a L := by
  obtain ⟨L, rfl, hL⟩ := map_of (f := c) (p := p) (L := l) fun r hr => by
    obtain ⟨x, h1, h2⟩ := hp r (hq r hr); exact ⟨x, h1, h2⟩
  refine ⟨L, by simp, hL, fun h0 => ?_⟩
  obtain ⟨b, off, h1, h2⟩ := h (by simpa using h0)
  refine ⟨b, off, h1, ?_⟩
  have : flat id (L.map c) = flat c L := by unfold flat; simp [List.flatMap]
  rwa [this] at h2

theorem flat_ints (k : IntKind) : ∀ l : List Int, flat (fun x : Int => [Value.int k x]) l = l.map (.int k)
  | [] => rfl
  | x :: l => by rw [flat_cons, flat_ints k l]; rfl

section
variable (P : Program)
def kindsDF (f : TypeId → Option (List KD)) : List Field → Nat → Option (List KD)
  | [], _ => some []
  | fd :: r, off => match f fd.type with
    | some ks => bif Nat.beq fd.offset off && Nat.beq (P.cellsOf fd.type) ks.length then (match kindsDF f r (off + ks.length) with
      | some rs => some (ks ++ rs)
      | none => none) else none
    | none => none
def kindE (e : TypeId) : Option KD := match P.underlying e with
  | some (.int k) => bif Nat.beq (P.cellsOf e) 1 then some (.ints k) else none
  | _ => match kinds P 9 e with
    | some ks => bif Nat.beq (P.cellsOf e) ks.length && Nat.blt 0 ks.length then some (.rows ks) else none
    | none => none
def kindsD : Nat → TypeId → Option (List KD)
  | 0, _ => none
  | n + 1, t => match P.underlying t with
    | some (.int k) => some [.int k]
    | some .bool => some [.bool]
    | some .string => some [.str]
    | some (.slice e) => (kindE P e).map fun k => [k]
    | some (.struct ⟨fs⟩) => match kindsDF P (kindsD n) fs 0 with
      | some ks => bif Nat.beq (P.cellsOf t) ks.length then some ks else none
      | none => none
    | _ => none
end

section
variable {H : Type} {enc : TypeId × Value → H} {P : Program} {W : World}
/-- A slice's cells: its elements. -/
theorem trod_elems {α : Type} {t e : TypeId} {c : α → List Value} {p : α → Prop} (ht : P.underlying t = some (.slice e)) (hs : 0 < P.cellsOf e)
    (hk : ∀ {n : Nat} {cs : List Value} {y : DataW H × List MemPlace}, DataW.trod enc P W 0 (fun _ => true) true n e cs = some y → ∃ x, cs = c x ∧ p x)
    {n : Nat} {cs : List Value} {y : DataW H × List MemPlace} (hf : DataW.trod enc P W 0 (fun _ => true) true n t cs = some y) :
    ∃ (a : Option Addr) (cp : Nat) (l : List α), cs = [.slice a l.length cp] ∧ l.length ≤ cp ∧ l.length ≤ maxLen ∧ (∀ x ∈ l, p x) ∧ Els W c a l := by
  rcases Deep.open_slice ht hf with ⟨hcs, _⟩ | ⟨x, len, cap, m, n, D, Pl, rfl, _, hl, hm, hmm, _, hel⟩
  · exact ⟨none, 0, [], by simpa using hcs, Nat.le_refl _, Nat.zero_le _, fun _ h => (by cases h), Els.nil _ _ _⟩
  · have hlm : len ≤ m := by rw [hmm]; split <;> omega
    have key : ∀ i, i < len → ∃ y : α, (∀ j, j < P.cellsOf e → W.cell? ((x.add (i * P.cellsOf e)).add j) = (c y)[j]?) ∧ (c y).length = P.cellsOf e ∧ p y := fun i hi => by
      obtain ⟨cs, h1, h2⟩ := hel i (by omega)
      obtain ⟨_, h3, h4⟩ := World.cells?_some h1
      obtain ⟨y, rfl, hy⟩ := hk h2
      exact ⟨y, h4, h3, hy⟩
    have hne : ∀ i, i < len → ∃ y : Option α, ∃ z, y = some z ∧ (∀ j, j < P.cellsOf e → W.cell? ((x.add (i * P.cellsOf e)).add j) = (c z)[j]?) ∧ (c z).length = P.cellsOf e ∧ p z := fun i hi => by
      obtain ⟨y, h1⟩ := key i hi; exact ⟨some y, y, rfl, h1⟩
    obtain ⟨f, hfy⟩ := Deep.choose_lt hne
    have hex : ∀ o ∈ (List.range len).map f, ∃ z, o = some z ∧ p z := fun o ho => by
      obtain ⟨i, hi, rfl⟩ := List.mem_map.1 ho
      obtain ⟨z, h1, _, _, h4⟩ := hfy i (List.mem_range.1 hi)
      exact ⟨z, h1, h4⟩
    obtain ⟨L, hL, hLp⟩ := map_of hex
    have hlen : L.length = len := by
      have := congrArg List.length hL
      simpa using this.symm
    refine ⟨some x, cap, L, by rw [hlen], by omega, by omega, hLp, fun h0 => ?_⟩
    obtain ⟨b, off, spot⟩ := x
    have hg : ∀ i, (hi : i < L.length) → f i = some L[i] := fun i hi => by
      have h5 : ((List.range len).map f)[i]? = (L.map some)[i]? := by rw [hL]
      rw [List.getElem?_map, List.getElem?_map, List.getElem?_range (by omega), List.getElem?_eq_getElem hi] at h5
      simpa using h5
    have hcell : ∀ i j, (hi : i < L.length) → j < P.cellsOf e → W.cell? (((⟨b, off, spot⟩ : Addr).add (i * P.cellsOf e)).add j) = (c L[i])[j]? ∧ (c L[i]).length = P.cellsOf e := fun i j hi hj => by
      obtain ⟨z, h1, h2, h3, _⟩ := hfy i (by omega)
      have h6 := hg i hi
      rw [h1] at h6
      cases h6
      exact ⟨h2 j hj, h3⟩
    have hspot : spot = none := by
      obtain ⟨h7, h8⟩ := hcell 0 0 h0 hs
      rw [List.getElem?_eq_getElem (by omega)] at h7
      simpa [Addr.add] using World.cell?_spot h7
    subst hspot
    refine ⟨b, off, rfl, fun k v hv => ?_⟩
    have hcl : ∀ z ∈ L, (c z).length = P.cellsOf e := fun z hz => by
      obtain ⟨i, hi, rfl⟩ := List.getElem_of_mem hz
      exact (hcell i 0 hi hs).2
    have main : ∀ (L : List α) (o : Nat), (∀ i j, (hi : i < L.length) → j < P.cellsOf e → W.cell? ⟨b, o + (i * P.cellsOf e + j), none⟩ = (c L[i])[j]?) → (∀ z ∈ L, (c z).length = P.cellsOf e) → ∀ k v, (flat c L)[k]? = some v → W.cell? ⟨b, o + k, none⟩ = some v := by
      intro L
      induction L with
      | nil => intro o _ _ k v hv; simp [flat] at hv
      | cons z L ih =>
        intro o hc1 hc2 k v hv
        have hz := hc2 z (.head _)
        rw [flat_cons] at hv
        rcases Nat.lt_or_ge k (P.cellsOf e) with hk1 | hk1
        · rw [List.getElem?_append_left (by omega)] at hv
          have := hc1 0 k (by simp) hk1
          rw [Nat.zero_mul, Nat.zero_add] at this
          rw [this]; exact hv
        · rw [List.getElem?_append_right (by omega), hz] at hv
          have h9 := ih (o + P.cellsOf e) (fun i j hi hj => by
            have := hc1 (i + 1) j (by simpa using hi) hj
            rw [Nat.add_mul, Nat.one_mul] at this
            rw [show o + P.cellsOf e + (i * P.cellsOf e + j) = o + (i * P.cellsOf e + P.cellsOf e + j) by omega]
            exact this) (fun y hy => hc2 y (.tail _ hy)) (k - P.cellsOf e) v hv
          rw [show o + P.cellsOf e + (k - P.cellsOf e) = o + k by omega] at h9
          exact h9
    refine main L off (fun i j hi hj => ?_) hcl k v hv
    have := (hcell i j hi hj).1
    rw [add_mk, add_mk] at this
    rw [show off + (i * P.cellsOf e + j) = off + i * P.cellsOf e + j by omega]
    exact this

theorem kindE_ok {t e : TypeId} {k : KD} {n : Nat} {cs : List Value} {y : DataW H × List MemPlace} (ht : P.underlying t = some (.slice e)) (hk : kindE P e = some k) (hy : DataW.trod enc P W 0 (fun _ => true) true n t cs = some y) : KDs W [k] cs := by
  unfold kindE at hk
  split at hk
  · rename_i kk he
    by_cases hb : Nat.beq (P.cellsOf e) 1 = true
    · rw [hb, cond_true] at hk
      cases hk
      have hc := Nat.eq_of_beq_eq_true hb
      obtain ⟨a, cp, l, rfl, h1, h2, h3, h4⟩ := trod_elems (c := fun x : Int => [Value.int kk x]) (p := fun x => (Lit.int kk x).wf = true) ht (by omega) (fun {n cs y} hy => by
        obtain ⟨x, rfl, _, hw⟩ := DataW.trod_int he hy
        exact ⟨x, rfl, hw⟩) hy
      refine ⟨⟨a, cp, l, rfl, h1, h2, h3, fun h0 => ?_⟩, trivial⟩
      obtain ⟨b, off, g1, g2⟩ := h4 h0
      refine ⟨b, off, g1, ?_⟩
      rwa [flat_ints] at g2
    · simp only [Bool.not_eq_true] at hb
      rw [hb, cond_false] at hk
      cases hk
  · split at hk
    · rename_i ks hks
      by_cases hb : (Nat.beq (P.cellsOf e) ks.length && Nat.blt 0 ks.length) = true
      · rw [hb, cond_true] at hk
        cases hk
        simp only [Bool.and_eq_true] at hb
        have hc := Nat.eq_of_beq_eq_true hb.1
        have h0 : 0 < ks.length := Nat.lt_of_lt_of_le Nat.zero_lt_one (Nat.le_of_ble_eq_true hb.2)
        obtain ⟨a, cp, l, rfl, h1, h2, h3, h4⟩ := trod_elems (c := id) (p := fun x => Cks ks x) ht (by omega) (fun {n cs y} hy => ⟨cs, rfl, kinds_ok 9 hks hy⟩) hy
        exact ⟨⟨a, cp, l, rfl, h1, h2, h3, h4⟩, trivial⟩
      · simp only [Bool.not_eq_true] at hb
        rw [hb, cond_false] at hk
        cases hk
    · cases hk
theorem kindsDF_ok {f : TypeId → Option (List KD)} {n : Nat} {cs : List Value} (hf : ∀ {t : TypeId} {ks : List KD} {xs : List Value} {y : DataW H × List MemPlace}, f t = some ks → DataW.trod enc P W 0 (fun _ => true) true n t xs = some y → KDs W ks xs) :
    ∀ (fs : List Field) (off : Nat) (ks : List KD), kindsDF P f fs off = some ks → (∀ fd ∈ fs, ∃ y, DataW.trod enc P W 0 (fun _ => true) true n fd.type ((cs.drop fd.offset).take (P.cellsOf fd.type)) = some y) → KDs W ks ((cs.drop off).take ks.length)
  | [], off, ks, h, _ => by cases h; simp [KDs]
  | fd :: r, off, ks, h, hy => by
    simp only [kindsDF] at h
    split at h
    · rename_i k1 hk1
      by_cases hb : (Nat.beq fd.offset off && Nat.beq (P.cellsOf fd.type) k1.length) = true
      · rw [hb, cond_true] at h
        simp only [Bool.and_eq_true] at hb
        have h1 := Nat.eq_of_beq_eq_true hb.1
        have h2 := Nat.eq_of_beq_eq_true hb.2
        split at h
        · rename_i rs hrs
          cases h
          obtain ⟨y, hy1⟩ := hy fd (.head _)
          have a1 := hf hk1 hy1
          have a2 := kindsDF_ok hf r _ rs hrs fun g hg => hy g (.tail _ hg)
          rw [h1, h2] at a1
          rw [List.length_append, List.take_add, List.drop_drop]
          exact a1.app a2
        · cases h
      · simp only [Bool.not_eq_true] at hb
        rw [hb, cond_false] at h
        cases h
    · cases h
theorem kindsD_ok : ∀ (m : Nat) {n : Nat} {t : TypeId} {ks : List KD} {cs : List Value} {y : DataW H × List MemPlace}, kindsD P m t = some ks → DataW.trod enc P W 0 (fun _ => true) true n t cs = some y → KDs W ks cs
  | 0, _, _, _, _, _, h, _ => by cases h
  | m + 1, n, t, ks, cs, y, h, hy => by
    simp only [kindsD] at h
    split at h
    · rename_i k ht
      cases h
      obtain ⟨x, rfl, _, hw⟩ := DataW.trod_int ht hy
      exact ⟨⟨x, rfl, hw⟩, trivial⟩
    · rename_i ht
      cases h
      obtain ⟨b, rfl, _⟩ := DataW.trod_bool ht hy
      exact ⟨⟨b, rfl⟩, trivial⟩
    · rename_i ht
      cases h
      obtain ⟨s, rfl, _, hs⟩ := DataW.trod_string ht hy
      exact ⟨⟨s, rfl, hs⟩, trivial⟩
    · rename_i e ht
      cases hk : kindE P e with
      | none => rw [hk] at h; cases h
      | some k =>
        rw [hk] at h
        cases h
        exact kindE_ok ht hk hy
    · rename_i fs ht
      split at h
      · rename_i k1 hk1
        by_cases hb : Nat.beq (P.cellsOf t) k1.length = true
        · rw [hb, cond_true] at h
          cases h
          obtain ⟨xs, n', rfl, _, hl, hlen, hf⟩ := DataW.trod_struct ht hy
          have := kindsDF_ok (cs := cs) (fun h1 h2 => kindsD_ok m h1 h2) fs 0 _ hk1 (fun fd hfd => by
            obtain ⟨i, hi, rfl⟩ := List.getElem_of_mem hfd
            have h3 := hf i fs[i] (by simp [hi])
            have hi' : i < xs.length := by rw [hlen]; simpa using hi
            rw [List.getElem?_eq_getElem hi'] at h3
            exact ⟨_, h3⟩)
          rw [List.drop_zero, ← Nat.eq_of_beq_eq_true hb, ← hl, List.take_length] at this
          exact this
        · simp only [Bool.not_eq_true] at hb
          rw [hb, cond_false] at h
          cases h
      · cases h
    · cases h

/-- A slice, of elements that may hold slices, that came in. -/
theorem arg_rowsD {α : Type} {r : Reach} {b0 : Nat} {t e : TypeId} {ks : List KD} {c : α → List Value} {p : α → Prop} {v : Value} {d : DataW H} {q : List MemPlace} (ht : P.underlying t = some (.slice e)) (hk : kindsD P 9 e = some ks) (hs : Nat.blt 0 (P.cellsOf e) = true)
    (hp : ∀ cs, KDs W ks cs → ∃ x, cs = c x ∧ p x) (hv : Value.okWide P W r b0 t v) (h : DataW.Trod enc P W 0 (fun _ => true) true t v d q) :
    ∃ (a : Option Addr) (cp : Nat) (l : List α), v = .slice a l.length cp ∧ l.length ≤ cp ∧ l.length ≤ maxLen ∧ (∀ x ∈ l, p x) ∧ Els W c a l := by
  have hs : 0 < P.cellsOf e := Nat.lt_of_lt_of_le Nat.zero_lt_one (Nat.le_of_ble_eq_true hs)
  obtain ⟨a, len, cap, rfl⟩ := okWide_slice ht hv
  obtain ⟨fuel, hf⟩ := h
  obtain ⟨a', cp, l, h1, h2, h3, h4, h5⟩ := trod_elems (c := c) (p := p) ht hs (fun hy => hp _ (kindsD_ok 9 hk hy)) hf
  simp [Value.cells] at h1
  obtain ⟨rfl, rfl, rfl⟩ := h1
  exact ⟨_, _, l, rfl, h2, h3, h4, h5⟩
/-- A struct, that may hold slices, that came in by value. -/
theorem arg_flatD {α : Type} {r : Reach} {b0 : Nat} {t : TypeId} {fs : Array Field} {ks : List KD} {c : α → List Value} {p : α → Prop} {v : Value} {d : DataW H} {q : List MemPlace} (ht : P.underlying t = some (.struct fs)) (hk : kindsD P 9 t = some ks)
    (hp : ∀ cs, KDs W ks cs → ∃ x, cs = c x ∧ p x) (hv : Value.okWide P W r b0 t v) (h : DataW.Trod enc P W 0 (fun _ => true) true t v d q) :
    ∃ x : α, v = .agg (c x).toArray ∧ p x := by
  obtain ⟨⟨cs⟩, rfl, _⟩ := okWide_struct ht hv
  obtain ⟨fuel, hf⟩ := h
  have h1 := kindsD_ok 9 hk hf
  simp only [Value.cells] at h1
  obtain ⟨x, hx, hpx⟩ := hp _ h1
  exact ⟨x, by rw [← hx], hpx⟩
end

section
variable {Γ : Ctx} {e : Env} {H : Heap} {d : Option Nat} {ty : TypeId} {pos : String} {af : Array Edge} {g : Option (Nat × Bool)}
/-- append(nil, make([]T, n)..). -/
theorem x_append0M {t tn : TypeId} {x y : Operand} {T s by_ : Nat} {n : Nat} {kk : IntKind} {ts : Array TypeId}
    (hx : vnf (ev e x) = some (.slice none 0 0)) (hy : vnf (ev e y) = some (.int kk n)) (hts : ts = #[t, tn]) (htn : isInt Γ.P tn = true) (hp : appP Γ.P t = some (T, s, by_))
    (h0 : 0 < n) (hlen : n ≤ 1000000) (hb : by_ ≤ 1000) :
    Op1 Γ ⟨d, .call ⟨.builtin .append, #[x, y], ts⟩, ty, pos, af, g⟩ e H (fun v' H' => ∃ b' cap sp, v' = .slice (some ⟨b', 0, none⟩) n cap ∧ H' = (b', blk sp T) :: H ∧ sp.length = cap * s ∧ n ≤ cap ∧ cap ≤ maxLen) := by
  intro w hw
  subst hts
  have hx := vnf_eq hx
  have hy := vnf_eq hy
  unfold isInt at htn
  split at htn <;> try cases htn
  rename_i kn hkn
  unfold appP at hp
  split at hp <;> try cases hp
  rename_i el hu
  split at hp <;> try cases hp
  rename_i ti hti
  split at hp <;> try cases hp
  rename_i z hz
  split at hp <;> try cases hp
  rename_i hzs
  obtain ⟨hz1, hz2⟩ := hzs
  have h48 : n * ti.bytes ≤ 281474976710656 := by
    have : n * ti.bytes ≤ 1000000 * 1000 := Nat.mul_le_mul hlen hb
    omega
  have key := Lib.run_append_nil_zeros (P := Γ.P) w t tn ty T ti z kk kn hu hkn hti hz n h0 hz2 (by omega) h48
  have hge := grownCap_ge w n 0 T
  have hcm : grownCap w n 0 T ≤ maxLen := grownCap_le_maxLen w n 0 T (by unfold maxLen; omega)
  generalize hZ : (Builtin.zeroCells z.cells n ++ Builtin.zeroCells z.cells (grownCap w n 0 T - n)) = Z at key
  have hzl : Z.size = grownCap w n 0 T * ti.size := by
    rw [← hZ]
    simp only [Array.size_append, size_zeroCells, hz1, ← Nat.add_mul]
    congr 1
    omega
  obtain ⟨Z⟩ := Z
  refine opW_run (v := .slice (some ⟨w.heap.size, 0, none⟩) n (grownCap w n 0 T)) (w' := w.drew.alloc (blk Z T)) ?_ ⟨_, hw.drew.alloc _, w.heap.size, grownCap w n 0 T, Z, rfl, rfl, by simpa using hzl, hge, hcm⟩
  simp only [execOp, resolve, Sem.run_bind, Sem.run_pure, Result.andThen_ok, invoke, builtin, List.map_toArray, List.map_cons, List.map_nil, hx, hy, key]
end
end Go.VV
