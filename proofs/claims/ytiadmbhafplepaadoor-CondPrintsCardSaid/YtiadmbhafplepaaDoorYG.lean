/- A call that is lent some of the middle of the heap; what came in lies apart from what was made. Plain lemmas; no program. -/
import Derived.Test.YtiadmbhafplepaaDoorYB
import Derived.Test.YtiadmbhafplepaaDoorYC
namespace Go.VV
open Go Go.ChangeShapes Go.WideShapes Go.ChangeAt Go.RowKit

/-- What a cell is. -/
inductive NK where
  | int (k : IntKind)
  | bool
  | str
  | ints (k : IntKind)
def nkOk (W : World) : NK → Value → Prop
  | .int k, v => ∃ n, v = .int k n ∧ (Lit.int k n).wf = true
  | .bool, v => ∃ b, v = .bool b
  | .str, v => ∃ s : ByteArray, v = .string s ∧ s.size ≤ maxLen
  | .ints k, v => ∃ (a : Option Addr) (c : Nat) (l : List Int), v = .slice a l.length c ∧ l.length ≤ c ∧ l.length ≤ maxLen ∧ (∀ x ∈ l, (Lit.int k x).wf = true) ∧ Ns W k a l
/-- Cell by cell. -/
def Nks (W : World) : List NK → List Value → Prop
  | [], [] => True
  | k :: ks, v :: vs => nkOk W k v ∧ Nks W ks vs
  | _, _ => False
theorem Nks.app {W : World} : ∀ {a b : List NK} {x y : List Value}, Nks W a x → Nks W b y → Nks W (a ++ b) (x ++ y)
  | [], _, [], _, _, h => h
  | _ :: _, _, _ :: _, _, h, h2 => ⟨h.1, Nks.app h.2 h2⟩
  | [], _, _ :: _, _, h, _ => h.elim
  | _ :: _, _, [], _, h, _ => h.elim
theorem Nks.len {W : World} : ∀ {a : List NK} {x : List Value}, Nks W a x → a.length = x.length
  | [], [], _ => rfl
  | _ :: _, _ :: _, h => by simp [Nks.len h.2]
  | [], _ :: _, h => h.elim
  | _ :: _, [], h => h.elim

section
variable (P : Program)
def nkindsF (f : TypeId → Option (List NK)) : List Field → Nat → Option (List NK)
  | [], _ => some []
  | fd :: r, off => match f fd.type with
    | some ks => bif Nat.beq fd.offset off && Nat.beq (P.cellsOf fd.type) ks.length then (match nkindsF f r (off + ks.length) with
      | some rs => some (ks ++ rs)
      | none => none) else none
    | none => none
def nkinds : Nat → TypeId → Option (List NK)
  | 0, _ => none
  | n + 1, t => match P.underlying t with
    | some (.int k) => some [.int k]
    | some .bool => some [.bool]
    | some .string => some [.str]
    | some (.slice e) => match P.underlying e with
      | some (.int k) => bif Nat.beq (P.cellsOf e) 1 then some [.ints k] else none
      | _ => none
    | some (.struct ⟨fs⟩) => match nkindsF P (nkinds n) fs 0 with
      | some ks => bif Nat.beq (P.cellsOf t) ks.length then some ks else none
      | none => none
    | _ => none
end

theorem nested_ints {H : Type} {enc : TypeId × Value → H} {P : Program} {W : World} {n : Nat} {t e : TypeId} {k : IntKind} {cs : List Value} {y : DataW H × List MemPlace} (ht : P.underlying t = some (.slice e)) (he : P.underlying e = some (.int k)) (hc : P.cellsOf e = 1)
    (hf : DataW.trod enc P W 0 (fun _ => true) true n t cs = some y) : Nks W [NK.ints k] cs := by
  rcases open_ints ht he hc hf with ⟨rfl, _⟩ | ⟨x, l, c, zs, rfl, _, hl, hm, hz, _, hcell, hwz⟩
  · exact ⟨⟨none, 0, [], rfl, Nat.le_refl _, Nat.zero_le _, by simp, Ns.nil _ _ _⟩, trivial⟩
  · have hz' : zs.length = c := by simpa using hz
    have hlen : (zs.take l).length = l := by rw [List.length_take]; omega
    refine ⟨⟨some x, c, zs.take l, by rw [hlen], by omega, by omega, fun y hy => hwz y (List.mem_of_mem_take hy), fun h0 => ?_⟩, trivial⟩
    obtain ⟨b, off, spot⟩ := x
    have h1 := hcell 0 (by omega)
    have hspot : spot = none := by simpa [Addr.add] using World.cell?_spot h1
    subst hspot
    refine ⟨b, off, rfl, fun j v hv => ?_⟩
    rw [List.getElem?_map] at hv
    rw [List.getElem?_take] at hv
    split at hv
    · have hj : j < zs.length := by omega
      have := hcell j hj
      have hadd : (⟨b, off, none⟩ : Addr).add j = ⟨b, off + j, none⟩ := by unfold Addr.add; split <;> simp_all
      rw [hadd] at this
      rw [List.getElem?_eq_getElem hj] at hv
      simp only [Option.map_some, Option.some.injEq] at hv
      subst hv
      simpa [List.getD_eq_getElem?_getD, hj] using this
    · cases hv
section
variable {H : Type} {enc : TypeId × Value → H} {P : Program} {W : World}
theorem nkindsF_ok {f : TypeId → Option (List NK)} {n : Nat} {cs : List Value} (hf : ∀ {t : TypeId} {ks : List NK} {xs : List Value} {y : DataW H × List MemPlace}, f t = some ks → DataW.trod enc P W 0 (fun _ => true) true n t xs = some y → Nks W ks xs) :
    ∀ (fs : List Field) (off : Nat) (ks : List NK), nkindsF P f fs off = some ks → (∀ fd ∈ fs, ∃ y, DataW.trod enc P W 0 (fun _ => true) true n fd.type ((cs.drop fd.offset).take (P.cellsOf fd.type)) = some y) → Nks W ks ((cs.drop off).take ks.length)
  | [], off, ks, h, _ => by cases h; simp [Nks]
  | fd :: r, off, ks, h, hy => by
    simp only [nkindsF] at h
    split at h
    · rename_i k1 hk1
      by_cases hb : (Nat.beq fd.offset off && Nat.beq (P.cellsOf fd.type) k1.length) = true
      · rw [hb, cond_true] at h
        simp only [Bool.and_eq_true] at hb
        have h1 := Nat.eq_of_beq_eq_true hb.1
        have h2 := Nat.eq_of_beq_eq_true hb.2
        split at h
        · rename_i rs hrs
          cases h
          obtain ⟨y, hy1⟩ := hy fd (.head _)
          have a1 := hf hk1 hy1
          have a2 := nkindsF_ok hf r _ rs hrs fun g hg => hy g (.tail _ hg)
          rw [h1, h2] at a1
          rw [List.length_append, List.take_add, List.drop_drop]
          exact a1.app a2
        · cases h
      · simp only [Bool.not_eq_true] at hb
        rw [hb, cond_false] at h
        cases h
    · cases h
theorem nkinds_ok : ∀ (m : Nat) {n : Nat} {t : TypeId} {ks : List NK} {cs : List Value} {y : DataW H × List MemPlace}, nkinds P m t = some ks → DataW.trod enc P W 0 (fun _ => true) true n t cs = some y → Nks W ks cs
  | 0, _, _, _, _, _, h, _ => by cases h
  | m + 1, n, t, ks, cs, y, h, hy => by
    simp only [nkinds] at h
    split at h
    · rename_i k ht
      cases h
      obtain ⟨x, rfl, _, hw⟩ := DataW.trod_int ht hy
      exact ⟨⟨x, rfl, hw⟩, trivial⟩
    · rename_i ht
      cases h
      obtain ⟨b, rfl, _⟩ := DataW.trod_bool ht hy
      exact ⟨⟨b, rfl⟩, trivial⟩
    · rename_i ht
      cases h
      obtain ⟨s, rfl, _, hs⟩ := DataW.trod_string ht hy
      exact ⟨⟨s, rfl, hs⟩, trivial⟩
    · rename_i e ht
      split at h
      · rename_i k he
        by_cases hb : Nat.beq (P.cellsOf e) 1 = true
        · rw [hb, cond_true] at h
          cases h
          exact nested_ints ht he (Nat.eq_of_beq_eq_true hb) hy
        · simp only [Bool.not_eq_true] at hb
          rw [hb, cond_false] at h
          cases h
      · cases h
    · rename_i fs ht
      split at h
      · rename_i k1 hk1
        by_cases hb : Nat.beq (P.cellsOf t) k1.length = true
        · rw [hb, cond_true] at h
          cases h
          obtain ⟨xs, n', rfl, _, hl, hlen, hf⟩ := DataW.trod_struct ht hy
          have := nkindsF_ok (cs := cs) (fun h1 h2 => nkinds_ok m h1 h2) fs 0 _ hk1 (fun fd hfd => by
            obtain ⟨i, hi, rfl⟩ := List.getElem_of_mem hfd
            have h3 := hf i fs[i] (by simp [hi])
            have hi' : i < xs.length := by rw [hlen]; simpa using hi
            rw [List.getElem?_eq_getElem hi'] at h3
            exact ⟨_, h3⟩)
          rw [List.drop_zero, ← Nat.eq_of_beq_eq_true hb, ← hl, List.take_length] at this
          exact this
        · simp only [Bool.not_eq_true] at hb
          rw [hb, cond_false] at h
          cases h
      · cases h
    · cases h

/-- A slice of flat elements that came in. -/
theorem arg_nrows {α : Type} {r : Reach} {b0 : Nat} {t e : TypeId} {ks : List NK} {c : α → List Value} {p : α → Prop} (s : Nat) {v : Value} {d : DataW H} {q : List MemPlace} (ht : P.underlying t = some (.slice e)) (hk : nkinds P 9 e = some ks) (hc : P.cellsOf e = s) (hs : Nat.blt 0 s = true)
    (hp : ∀ cs, Nks W ks cs → ∃ x, cs = c x ∧ p x) (hv : Value.okWide P W r b0 t v) (h : DataW.Trod enc P W 0 (fun _ => true) true t v d q) :
    ∃ (a : Option Addr) (cp : Nat) (l : List α), v = .slice a l.length cp ∧ l.length ≤ cp ∧ l.length ≤ maxLen ∧ (∀ x ∈ l, p x) ∧ Els W c a l := by
  subst hc
  have hs : 0 < P.cellsOf e := Nat.lt_of_lt_of_le Nat.zero_lt_one (Nat.le_of_ble_eq_true hs)
  obtain ⟨a, len, cap, rfl⟩ := okWide_slice ht hv
  obtain ⟨fuel, hf⟩ := h
  rcases Deep.open_slice ht hf with ⟨hcs, _⟩ | ⟨x, l, c', m, n, D, Pl, hcs, _, hl, hm, hmm, _, hel⟩
  · simp [Value.cells] at hcs
    obtain ⟨rfl, rfl, rfl⟩ := hcs
    exact ⟨none, 0, [], rfl, Nat.le_refl _, Nat.zero_le _, fun _ h => (by cases h), Els.nil _ _ _⟩
  · simp [Value.cells] at hcs
    obtain ⟨rfl, rfl, rfl⟩ := hcs
    have hlm : len ≤ m := by rw [hmm]; split <;> omega
    have key : ∀ i, i < len → ∃ y : α, (∀ j, j < P.cellsOf e → W.cell? ((x.add (i * P.cellsOf e)).add j) = (c y)[j]?) ∧ (c y).length = P.cellsOf e ∧ p y := fun i hi => by
      obtain ⟨cs, h1, h2⟩ := hel i (by omega)
      obtain ⟨_, h3, h4⟩ := World.cells?_some h1
      obtain ⟨y, rfl, hy⟩ := hp cs (nkinds_ok 9 hk h2)
      exact ⟨y, h4, h3, hy⟩
    have hne : ∀ i, i < len → ∃ y : Option α, ∃ z, y = some z ∧ (∀ j, j < P.cellsOf e → W.cell? ((x.add (i * P.cellsOf e)).add j) = (c z)[j]?) ∧ (c z).length = P.cellsOf e ∧ p z := fun i hi => by
      obtain ⟨y, h1⟩ := key i hi; exact ⟨some y, y, rfl, h1⟩
    obtain ⟨f, hfy⟩ := Deep.choose_lt hne
    have hex : ∀ o ∈ (List.range len).map f, ∃ z, o = some z ∧ p z := fun o ho => by
      obtain ⟨i, hi, rfl⟩ := List.mem_map.1 ho
      obtain ⟨z, h1, _, _, h4⟩ := hfy i (List.mem_range.1 hi)
      exact ⟨z, h1, h4⟩
    obtain ⟨L, hL, hLp⟩ := map_of hex
    have hlen : L.length = len := by
      have := congrArg List.length hL
      simpa using this.symm
    refine ⟨some x, cap, L, by rw [hlen], by omega, by omega, hLp, fun h0 => ?_⟩
    obtain ⟨b, off, spot⟩ := x
    have hg : ∀ i, (hi : i < L.length) → f i = some L[i] := fun i hi => by
      have h5 : ((List.range len).map f)[i]? = (L.map some)[i]? := by rw [hL]
      rw [List.getElem?_map, List.getElem?_map, List.getElem?_range (by omega), List.getElem?_eq_getElem hi] at h5
      simpa using h5
    have hcell : ∀ i j, (hi : i < L.length) → j < P.cellsOf e → W.cell? (((⟨b, off, spot⟩ : Addr).add (i * P.cellsOf e)).add j) = (c L[i])[j]? ∧ (c L[i]).length = P.cellsOf e := fun i j hi hj => by
      obtain ⟨z, h1, h2, h3, _⟩ := hfy i (by omega)
      have h6 := hg i hi
      rw [h1] at h6
      cases h6
      exact ⟨h2 j hj, h3⟩
    have hspot : spot = none := by
      obtain ⟨h7, h8⟩ := hcell 0 0 h0 hs
      rw [List.getElem?_eq_getElem (by omega)] at h7
      simpa [Addr.add] using World.cell?_spot h7
    subst hspot
    refine ⟨b, off, rfl, fun k v hv => ?_⟩
    have hcl : ∀ z ∈ L, (c z).length = P.cellsOf e := fun z hz => by
      obtain ⟨i, hi, rfl⟩ := List.getElem_of_mem hz
      exact (hcell i 0 hi hs).2
    -- the k-th cell lies in the (k / s)-th element
    have main : ∀ (L : List α) (o : Nat), (∀ i j, (hi : i < L.length) → j < P.cellsOf e → W.cell? ⟨b, o + (i * P.cellsOf e + j), none⟩ = (c L[i])[j]?) → (∀ z ∈ L, (c z).length = P.cellsOf e) → ∀ k v, (flat c L)[k]? = some v → W.cell? ⟨b, o + k, none⟩ = some v := by
      intro L
      induction L with
      | nil => intro o _ _ k v hv; simp [flat] at hv
      | cons z L ih =>
        intro o hc1 hc2 k v hv
        have hz := hc2 z (.head _)
        rw [flat_cons] at hv
        rcases Nat.lt_or_ge k (P.cellsOf e) with hk1 | hk1
        · rw [List.getElem?_append_left (by omega)] at hv
          have := hc1 0 k (by simp) hk1
          rw [Nat.zero_mul, Nat.zero_add] at this
          rw [this]; exact hv
        · rw [List.getElem?_append_right (by omega), hz] at hv
          have h9 := ih (o + P.cellsOf e) (fun i j hi hj => by
            have := hc1 (i + 1) j (by simpa using hi) hj
            rw [Nat.add_mul, Nat.one_mul] at this
            rw [show o + P.cellsOf e + (i * P.cellsOf e + j) = o + (i * P.cellsOf e + P.cellsOf e + j) by omega]
            exact this) (fun y hy => hc2 y (.tail _ hy)) (k - P.cellsOf e) v hv
          rw [show o + P.cellsOf e + (k - P.cellsOf e) = o + k by omega] at h9
          exact h9
    refine main L off (fun i j hi hj => ?_) hcl k v hv
    have := (hcell i j hi hj).1
    rw [add_mk, add_mk] at this
    rw [show off + (i * P.cellsOf e + j) = off + i * P.cellsOf e + j by omega]
    exact this
end
end Go.VV
namespace Go.VV
open Go Go.RowKit
section
variable {P : Program} (w : World)
theorem run_nea {en : Env} {d : Option Nat} {x y : Operand} {t el u ty n : Nat} {kd : IntKind} {pos : String} {af : Array Edge} {g : Option (Nat × Bool)} {xs ys : List Int}
    (hx : ev en x = .agg (xs.map (Value.int kd)).toArray) (hy : ev en y = .agg (ys.map (Value.int kd)).toArray) (hu : arrP P t = some (n, el, 1)) (he : P.underlying el = some (.int kd))
    (hg : P.eqGuardType P.depth t = false) (hxl : xs.length = n) (hyl : ys.length = n) :
    (execOp (ev en) ⟨d, .binOp .neq t x y u, ty, pos, af, g⟩).run P w = .ok (.value (.bool (!(xs == ys)))) w := by
  obtain ⟨h1, h2⟩ := arrP_spec hu
  have key := run_equalIn_ints (P := P) w 9998 t el n kd h1 he (fun w => run_sizeOf h2 w) xs ys hxl hyl
  have hb := run_neq_struct (P := P) w t (xs.map (Value.int kd)).toArray (ys.map (Value.int kd)).toArray
  simp only [execOp, hx, hy, Sem.run_bind]
  have hgd : (eqGuard .neq t x y (.agg (xs.map (Value.int kd)).toArray) (.agg (ys.map (Value.int kd)).toArray)).run P w = .ok () w := by
    simp [eqGuard, hg]
  rw [hgd]
  simp only [Result.andThen_ok]
  rw [hb, key]
  rfl
end
section
variable {Γ : Ctx} {e : Env} {H : Heap} {d : Option Nat} {t u ty : TypeId} {pos : String} {af : Array Edge} {g : Option (Nat × Bool)}
theorem x_eqa {x y : Operand} {el n : Nat} {kd : IntKind} {xs ys : List Int} {b : Bool}
    (hx : ev e x = .agg (xs.map (Value.int kd)).toArray) (hy : ev e y = .agg (ys.map (Value.int kd)).toArray) (hu : arrP Γ.P t = some (n, el, 1)) (he : Γ.P.underlying el = some (.int kd))
    (hg : Γ.P.eqGuardType Γ.P.depth t = false) (hxl : xs.length = n) (hyl : ys.length = n) (hb : (xs == ys) = b) :
    Op1 Γ ⟨d, .binOp .eql t x y u, ty, pos, af, g⟩ e H (fun v H' => v = .bool b ∧ H' = H) := fun w hw => opW_run (run_eqa w hx hy hu he hg hxl hyl) ⟨H, hw, by rw [hb], rfl⟩
theorem x_nea {x y : Operand} {el n : Nat} {kd : IntKind} {xs ys : List Int} {b : Bool}
    (hx : ev e x = .agg (xs.map (Value.int kd)).toArray) (hy : ev e y = .agg (ys.map (Value.int kd)).toArray) (hu : arrP Γ.P t = some (n, el, 1)) (he : Γ.P.underlying el = some (.int kd))
    (hg : Γ.P.eqGuardType Γ.P.depth t = false) (hxl : xs.length = n) (hyl : ys.length = n) (hb : (!(xs == ys)) = b) :
    Op1 Γ ⟨d, .binOp .neq t x y u, ty, pos, af, g⟩ e H (fun v H' => v = .bool b ∧ H' = H) := fun w hw => opW_run (run_nea w hx hy hu he hg hxl hyl) ⟨H, hw, by rw [hb], rfl⟩
end
end Go.VV
namespace Go.VV
open Go Go.RowKit
section
variable {Γ : Ctx} {e : Env} {d : Option Nat} {t : TypeId} {pos : String} {af : Array Edge} {g : Option (Nat × Bool)}
theorem x_callM {F A G : Heap} {f : Nat} {l : List Operand} {ts : Array TypeId} {vs : List Value} (ms2 : List Nat) (hc : callable Γ.P f = true) (hv : evs e l = some vs) {R : Value → Heap → Prop}
    (hms : ∀ b ∈ ms2, ∃ o, (b, o) ∈ A) (hf : ∀ w, St Γ.w0 Γ.ms (A ++ (F ++ G)) w → Does Γ.P f vs w ms2 R) :
    Op1 Γ ⟨d, .call ⟨.value (.func f), l.toArray, ts⟩, t, pos, af, g⟩ e (F ++ (A ++ G)) (fun v H2 => ∃ H', R v H' ∧ H2 = F ++ (H' ++ G)) := by
  have key := x_callF (Γ := Γ) (e := e) (d := d) (t := t) (pos := pos) (af := af) (g := g) (A := A) (G := F ++ G) (ts := ts) (vs := vs) ms2 hc hv hms hf
  intro w hw
  have hw2 : St Γ.w0 Γ.ms (A ++ (F ++ G)) w := hw.perm (by
    rw [← List.append_assoc, ← List.append_assoc]
    exact List.Perm.append_right _ List.perm_append_comm)
  refine opW_mono (key w hw2) ?_
  rintro v w' ⟨H2, h2, H', hR, rfl⟩
  refine ⟨F ++ (H' ++ G), h2.perm ?_, H', hR, rfl⟩
  rw [← List.append_assoc, ← List.append_assoc]
  exact List.Perm.append_right _ List.perm_append_comm
end
/-- What was there lies apart from what was made. -/
theorem Row.apart {w0 w : World} {b off : Nat} {l : List Value} (h : Row w0 b off l) (hl : 0 < l.length) {H : Heap} (hw : St w0 [] H w) {x : Nat × Obj} (hm : x ∈ H) : b ≠ x.1 := by
  rintro rfl
  have h1 := h 0 (l[0]) (by rw [List.getElem?_eq_getElem hl])
  have h2 := (hw.own x hm).resolve_left (by simp)
  have h3 : w0.heap[x.1]? = none := Array.getElem?_eq_none (by omega)
  simp [World.cell?, h3] at h1
theorem Ns.apart {w0 w : World} {k : IntKind} {a : Option Addr} {l : List Int} (h : Ns w0 k a l) (hl : 0 < l.length) {H : Heap} (hw : St w0 [] H w) {x : Nat × Obj} (hm : x ∈ H) {p : Addr} (hp : a = some p) : p.block ≠ x.1 := by
  obtain ⟨b, off, rfl, hr⟩ := h hl
  cases hp
  exact hr.apart (by simpa using hl) hw hm
/-- The same row, later, where it lies apart from what is lent. -/
theorem Ns.old {w0 w : World} {ms : List Nat} {H : Heap} {k : IntKind} {a : Option Addr} {l : List Int} (h : Ns w0 k a l) (hne : 0 < l.length → ∀ p, a = some p → p.block ∉ ms) (hw : St w0 ms H w) : Ns w k a l := fun hl => by
  obtain ⟨b, off, rfl, hr⟩ := h hl
  exact ⟨b, off, rfl, row_old hr (hne hl _ rfl) w hw⟩
end Go.VV
