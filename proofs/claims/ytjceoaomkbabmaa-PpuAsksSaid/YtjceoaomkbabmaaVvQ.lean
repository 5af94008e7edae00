/- Equality of flat structs. Plain lemmas; no program. -/
import Derived.Test.YtjceoaomkbabmaaVvY
import Derived.Laws.StructEq
namespace Go.VV
open Go

def shpB : List CK → List Value → Bool
  | [], [] => true
  | .int k :: ks, .int k' _ :: vs => decide (k = k') && shpB ks vs
  | .bool :: ks, .bool _ :: vs => shpB ks vs
  | .str :: ks, .string _ :: vs => shpB ks vs
  | _, _ => false
def veq : Value → Value → Bool
  | .int _ a, .int _ b => a == b
  | .bool a, .bool b => a == b
  | .string a, .string b => a.toList == b.toList
  | _, _ => false
def lveq : List Value → List Value → Bool
  | [], [] => true
  | x :: xs, y :: ys => veq x y && lveq xs ys
  | _, _ => false
theorem shpB_split : ∀ {a b : List CK} {xs : List Value}, shpB (a ++ b) xs = true → ∃ x y, xs = x ++ y ∧ shpB a x = true ∧ shpB b y = true
  | [], b, xs, h => ⟨[], xs, rfl, rfl, h⟩
  | .int k :: a, b, .int k' n :: vs, h => by
    simp only [List.cons_append, shpB, Bool.and_eq_true] at h
    obtain ⟨x, y, rfl, h1, h2⟩ := shpB_split (a := a) (b := b) (xs := vs) h.2
    exact ⟨.int k' n :: x, y, rfl, by simp only [shpB, Bool.and_eq_true]; exact ⟨h.1, h1⟩, h2⟩
  | .bool :: a, b, .bool t :: vs, h => by
    obtain ⟨x, y, rfl, h1, h2⟩ := shpB_split (a := a) (b := b) (xs := vs) h
    exact ⟨.bool t :: x, y, rfl, h1, h2⟩
  | .str :: a, b, .string t :: vs, h => by
    obtain ⟨x, y, rfl, h1, h2⟩ := shpB_split (a := a) (b := b) (xs := vs) h
    exact ⟨.string t :: x, y, rfl, h1, h2⟩
theorem shpB_len : ∀ {a : List CK} {x : List Value}, shpB a x = true → x.length = a.length
  | [], [], _ => rfl
  | .int _ :: a, .int _ _ :: x, h => by
    simp only [shpB, Bool.and_eq_true] at h
    simp [shpB_len (a := a) (x := x) h.2]
  | .bool :: a, .bool _ :: x, h => by simp [shpB_len (a := a) (x := x) h]
  | .str :: a, .string _ :: x, h => by simp [shpB_len (a := a) (x := x) h]
theorem shp_int {k : IntKind} {x : List Value} (h : shpB [.int k] x = true) : ∃ n, x = [.int k n] := by
  cases x with
  | nil => simp [shpB] at h
  | cons v r =>
    cases v <;> simp [shpB] at h
    obtain ⟨rfl, h2⟩ := h
    cases r with
    | nil => exact ⟨_, rfl⟩
    | cons => simp [shpB] at h2
theorem lveq_app : ∀ {a b x y : List Value}, a.length = x.length → lveq (a ++ b) (x ++ y) = (lveq a x && lveq b y)
  | [], b, [], y, _ => by simp [lveq]
  | u :: a, b, v :: x, y, h => by
    simp only [List.cons_append, lveq]
    rw [lveq_app (by simpa using h), Bool.and_assoc]

section
variable (P : Program)
def eqOkF (f : TypeId → Bool) : List Field → Bool
  | [] => true
  | fd :: r => !(fd.name == "_") && f fd.type && eqOkF f r
def eqOk : Nat → TypeId → Bool
  | 0, _ => false
  | n + 1, t => match P.underlying t with
    | some (.int _) => true
    | some .bool => true
    | some .string => true
    | some (.struct ⟨fs⟩) => !(P.stoodInHeld t) && Nat.beq ((sizeP P t).getD 0) (P.cellsOf t) && (sizeP P t).isSome && eqOkF (eqOk n) fs
    | _ => false
/-- A value of its cells. -/
def valP (t : TypeId) (xs : List Value) : Value := match P.underlying t with
  | some (.struct _) => .agg xs.toArray
  | _ => xs.headD undef
end

section
variable {P : Program}
theorem run_part {w : World} {t : TypeId} {m : Nat} {ks : List CK} {X x R : List Value} {off : Nat} (hk : kinds P m t = some ks) (he : eqOk P m t = true) (hx : shpB ks x = true) (hX : X.drop off = x ++ R) (hc : P.cellsOf t = ks.length) :
    (part t X.toArray off).run P w = .ok (valP P t x) w := by
  have hlen := shpB_len hx
  cases m with
  | zero => cases hk
  | succ m =>
    simp only [kinds] at hk
    simp only [eqOk] at he
    split at hk
    · rename_i k ht
      cases hk
      obtain ⟨n, rfl⟩ := shp_int hx
      · have h0 : X[off]? = some (.int k n) := by
          have := congrArg (·[0]?) hX
          simpa using this
        simp [part, isAgg, run_underlying ht, h0, valP, ht]
    · rename_i ht
      cases hk
      match x, hx with
      | [.bool n], _ =>
        have h0 : X[off]? = some (.bool n) := by
          have := congrArg (·[0]?) hX
          simpa using this
        simp [part, isAgg, run_underlying ht, h0, valP, ht]
    · rename_i ht
      cases hk
      match x, hx with
      | [.string n], _ =>
        have h0 : X[off]? = some (.string n) := by
          have := congrArg (·[0]?) hX
          simpa using this
        simp [part, isAgg, run_underlying ht, h0, valP, ht]
    · rename_i fs ht
      rw [ht] at he
      simp only [Bool.and_eq_true] at he
      obtain ⟨⟨⟨_, h1⟩, h2⟩, _⟩ := he
      obtain ⟨n, hn⟩ := Option.isSome_iff_exists.1 h2
      rw [hn] at h1
      have h3 := Nat.eq_of_beq_eq_true h1
      simp only [Option.getD_some] at h3
      have hsz := run_sizeOf hn w
      have h5 : (X.drop off).take n = x := by
        rw [hX, h3, hc, ← hlen, List.take_left']
        rfl
      simp [part, isAgg, run_underlying ht, hsz, valP, ht]
      exact h5
    · cases hk

theorem run_eq_flat : ∀ (m : Nat) {d : Nat} {w : World} {t : TypeId} {ks : List CK} {x y : List Value}, m ≤ d → kinds P m t = some ks → eqOk P m t = true → shpB ks x = true → shpB ks y = true →
    (Op.equalIn d t (valP P t x) (valP P t y)).run P w = .ok (lveq x y) w
  | 0, _, _, _, _, _, _, _, h, _, _, _ => by cases h
  | m + 1, 0, _, _, _, _, _, hd, _, _, _, _ => by omega
  | m + 1, d + 1, w, t, ks, x, y, hd, hk, he, hx, hy => by
    simp only [kinds] at hk
    simp only [eqOk] at he
    split at hk
    · rename_i k ht
      cases hk
      obtain ⟨n, rfl⟩ := shp_int hx
      obtain ⟨n2, rfl⟩ := shp_int hy
      simp [valP, ht, run_equalIn_int w d t k k n n2 ht, lveq, veq]
    · rename_i ht
      cases hk
      match x, y, hx, hy with
      | [.bool n], [.bool n2], _, _ => simp [valP, ht, run_equalIn_bool' w d t n n2 ht, lveq, veq]
    · rename_i ht
      cases hk
      match x, y, hx, hy with
      | [.string n], [.string n2], _, _ => simp [valP, ht, run_equalIn_string w d t n n2 ht, lveq, veq]
    · rename_i fs ht
      rw [ht] at he
      simp only [Bool.and_eq_true, Bool.not_eq_true'] at he
      obtain ⟨⟨⟨hst, _⟩, _⟩, hof⟩ := he
      split at hk
      · rename_i k1 hk1
        by_cases hb : Nat.beq (P.cellsOf t) k1.length = true
        · rw [hb, cond_true] at hk
          cases hk
          have hfo : P.fieldsOf t = ⟨fs⟩ := by simp [Program.fieldsOf, ht]
          have hv : ∀ z, valP P t z = .agg z.toArray := fun z => by simp [valP, ht]
          rw [hv, hv, run_equalIn_struct w d t _ _ (by rw [hfo]; exact ht) hst, hfo]
          have key : ∀ (fs : List Field) (off : Nat) (ks : List CK) (x1 y1 : List Value), kindsF P (kinds P m) fs off = some ks → eqOkF (eqOk P m) fs = true → shpB ks x1 = true → shpB ks y1 = true → (∃ r, x.drop off = x1 ++ r) → (∃ r, y.drop off = y1 ++ r) →
              (Op.eqFields d x.toArray y.toArray fs).run P w = .ok (lveq x1 y1) w := by
            intro fs
            induction fs with
            | nil =>
              intro off ks x1 y1 h1 _ h3 h4 _ _
              cases h1
              match x1, y1, h3, h4 with
              | [], [], _, _ => simp [Op.eqFields, lveq]
            | cons f fs ih =>
              intro off ks x1 y1 h1 h2 h3 h4 h5 h6
              simp only [kindsF] at h1
              simp only [eqOkF, Bool.and_eq_true, Bool.not_eq_true'] at h2
              split at h1
              · rename_i k2 hk2
                by_cases hb2 : (Nat.beq f.offset off && Nat.beq (P.cellsOf f.type) k2.length) = true
                · rw [hb2, cond_true] at h1
                  simp only [Bool.and_eq_true] at hb2
                  have e1 := Nat.eq_of_beq_eq_true hb2.1
                  have e2 := Nat.eq_of_beq_eq_true hb2.2
                  split at h1
                  · rename_i rs hrs
                    cases h1
                    obtain ⟨xa, xb, rfl, ha1, ha2⟩ := shpB_split h3
                    obtain ⟨ya, yb, rfl, hb1, hb2⟩ := shpB_split h4
                    obtain ⟨r1, hr1⟩ := h5
                    obtain ⟨r2, hr2⟩ := h6
                    have p1 := run_part (w := w) hk2 h2.1.2 ha1 (by rw [hr1, List.append_assoc]) e2
                    have p2 := run_part (w := w) hk2 h2.1.2 hb1 (by rw [hr2, List.append_assoc]) e2
                    have p3 := run_eq_flat m (d := d) (w := w) (by omega) hk2 h2.1.2 ha1 hb1
                    have hnm : f.name ≠ "_" := by
                      have := h2.1.1
                      intro h0; rw [h0] at this; simp at this
                    have l1 := shpB_len ha1
                    have l2 := shpB_len hb1
                    have p4 := ih (off + k2.length) rs xb yb hrs h2.2 ha2 hb2 ⟨r1, by rw [← List.drop_drop, hr1, List.append_assoc, List.drop_left' l1]⟩ ⟨r2, by rw [← List.drop_drop, hr2, List.append_assoc, List.drop_left' l2]⟩
                    rw [lveq_app (l1.trans l2.symm)]
                    simp only [Op.eqFields, if_pos hnm, Sem.run_bind, e1, p1, p2, p3, Result.andThen_ok]
                    cases lveq xa ya
                    · simp
                    · simpa using p4
                  · cases h1
                · simp only [Bool.not_eq_true] at hb2
                  rw [hb2, cond_false] at h1
                  cases h1
              · cases h1
          exact key fs 0 _ x y hk1 hof hx hy ⟨[], by simp⟩ ⟨[], by simp⟩
        · simp only [Bool.not_eq_true] at hb
          rw [hb, cond_false] at hk
          cases hk
      · cases hk
    · cases hk

section
variable {e : Env} {d : Option Nat} {t u ty : TypeId} {pos : String} {af : Array Edge} {g : Option (Nat × Bool)} {x y : Operand} {l r : List Value} {ks : List CK}
def eqsB (P : Program) (t : TypeId) : Bool := eqOk P 9 t && !(P.eqGuardType P.depth t) && (match P.underlying t with
  | some (.struct _) => true
  | _ => false)
theorem run_eqs (hx : vnf (ev e x) = some (.agg ⟨l⟩)) (hy : vnf (ev e y) = some (.agg ⟨r⟩)) (hk : kinds P 9 t = some ks) (hb : eqsB P t = true) (h1 : shpB ks l = true) (h2 : shpB ks r = true) (w : World) :
    (execOp (ev e) ⟨d, .binOp .eql t x y u, ty, pos, af, g⟩).run P w = .ok (.value (.bool (lveq l r))) w := by
  have hx := vnf_eq hx
  have hy := vnf_eq hy
  simp only [eqsB, Bool.and_eq_true, Bool.not_eq_true'] at hb
  obtain ⟨⟨b1, b2⟩, b3⟩ := hb
  have hv : ∀ z : List Value, valP P t z = .agg ⟨z⟩ := fun z => by
    unfold valP
    split at b3
    · rename_i ht; first | rfl | rw [ht]
    · cases b3
  have key := run_eq_flat 9 (d := 10000) (w := w) (by omega) hk b1 h1 h2
  rw [hv, hv] at key
  have hgd : (eqGuard .eql t x y (.agg ⟨l⟩) (.agg ⟨r⟩)).run P w = .ok () w := by simp [eqGuard, b2]
  simp only [execOp, hx, hy, Sem.run_bind]
  rw [hgd]
  simp only [Result.andThen_ok]
  rw [run_eql_struct (P := P) w t, key]
  rfl
theorem run_nes (hx : vnf (ev e x) = some (.agg ⟨l⟩)) (hy : vnf (ev e y) = some (.agg ⟨r⟩)) (hk : kinds P 9 t = some ks) (hb : eqsB P t = true) (h1 : shpB ks l = true) (h2 : shpB ks r = true) (w : World) :
    (execOp (ev e) ⟨d, .binOp .neq t x y u, ty, pos, af, g⟩).run P w = .ok (.value (.bool (!(lveq l r)))) w := by
  have hx := vnf_eq hx
  have hy := vnf_eq hy
  simp only [eqsB, Bool.and_eq_true, Bool.not_eq_true'] at hb
  obtain ⟨⟨b1, b2⟩, b3⟩ := hb
  have hv : ∀ z : List Value, valP P t z = .agg ⟨z⟩ := fun z => by
    unfold valP
    split at b3
    · rename_i ht; first | rfl | rw [ht]
    · cases b3
  have key := run_eq_flat 9 (d := 10000) (w := w) (by omega) hk b1 h1 h2
  rw [hv, hv] at key
  have hgd : (eqGuard .neq t x y (.agg ⟨l⟩) (.agg ⟨r⟩)).run P w = .ok () w := by simp [eqGuard, b2]
  simp only [execOp, hx, hy, Sem.run_bind]
  rw [hgd]
  simp only [Result.andThen_ok]
  rw [run_neq_struct (P := P) w t, key]
  rfl
variable {Γ : Ctx} {H : Heap} {k : Kont} {ops rest : List Oper} {S : World → Prop} {need : List Nat} {pl : Plan} {i : Nat}
theorem l_eqs (hx : vnf (ev e x) = some (.agg ⟨l⟩)) (hy : vnf (ev e y) = some (.agg ⟨r⟩)) (hk : kinds Γ.P 9 t = some ks) (hb : eqsB Γ.P t = true) (h1 : shpB ks l = true) (h2 : shpB ks r = true)
    (hg : gdB ops e ⟨d, .binOp .eql t x y u, ty, pos, af, g⟩ = true) (hd : dstOk Γ.n d = true) {b : Bool} (hv : lveq l r = b) (h : L1 Γ ops rest k (e.put d (.bool b)) H) : L1 Γ ops (⟨d, .binOp .eql t x y u, ty, pos, af, g⟩ :: rest) k e H := by
  subst hv
  exact l_op (K := fun u H' => u = .bool (lveq l r) ∧ H' = H) hg hd (fun w hw => opW_run (run_eqs hx hy hk hb h1 h2 w) ⟨H, hw, rfl, rfl⟩) (by rintro _ _ ⟨rfl, rfl⟩; exact h)
theorem l_nes (hx : vnf (ev e x) = some (.agg ⟨l⟩)) (hy : vnf (ev e y) = some (.agg ⟨r⟩)) (hk : kinds Γ.P 9 t = some ks) (hb : eqsB Γ.P t = true) (h1 : shpB ks l = true) (h2 : shpB ks r = true)
    (hg : gdB ops e ⟨d, .binOp .neq t x y u, ty, pos, af, g⟩ = true) (hd : dstOk Γ.n d = true) {b : Bool} (hv : (!(lveq l r)) = b) (h : L1 Γ ops rest k (e.put d (.bool b)) H) : L1 Γ ops (⟨d, .binOp .neq t x y u, ty, pos, af, g⟩ :: rest) k e H := by
  subst hv
  exact l_op (K := fun u H' => u = .bool (!(lveq l r)) ∧ H' = H) hg hd (fun w hw => opW_run (run_nes hx hy hk hb h1 h2 w) ⟨H, hw, rfl, rfl⟩) (by rintro _ _ ⟨rfl, rfl⟩; exact h)
theorem d_eqs (ho : ops[i]? = some ⟨d, .binOp .eql t x y u, ty, pos, af, g⟩) (hx : vnf (ev e x) = some (.agg ⟨l⟩)) (hy : vnf (ev e y) = some (.agg ⟨r⟩)) (hk : kinds Γ.P 9 t = some ks) (hb : eqsB Γ.P t = true) (h1 : shpB ks l = true) (h2 : shpB ks r = true)
    (hg : gdB ops e ⟨d, .binOp .eql t x y u, ty, pos, af, g⟩ = true) (hd : dstOk Γ.n d = true) {b : Bool} (hv : lveq l r = b) (h : L2 Γ ops S need pl k (e.put d (.bool b)) H) : L2 Γ ops S need (.step true i pl) k e H := by
  subst hv
  exact d_yield ho hg hd (fun w _ => run_eqs hx hy hk hb h1 h2 w) h
theorem d_nes (ho : ops[i]? = some ⟨d, .binOp .neq t x y u, ty, pos, af, g⟩) (hx : vnf (ev e x) = some (.agg ⟨l⟩)) (hy : vnf (ev e y) = some (.agg ⟨r⟩)) (hk : kinds Γ.P 9 t = some ks) (hb : eqsB Γ.P t = true) (h1 : shpB ks l = true) (h2 : shpB ks r = true)
    (hg : gdB ops e ⟨d, .binOp .neq t x y u, ty, pos, af, g⟩ = true) (hd : dstOk Γ.n d = true) {b : Bool} (hv : (!(lveq l r)) = b) (h : L2 Γ ops S need pl k (e.put d (.bool b)) H) : L2 Γ ops S need (.step true i pl) k e H := by
  subst hv
  exact d_yield ho hg hd (fun w _ => run_nes hx hy hk hb h1 h2 w) h
end
end
theorem lveq_refl : ∀ {ks : List CK} {l : List Value}, shpB ks l = true → lveq l l = true
  | [], [], _ => rfl
  | .int _ :: ks, .int _ _ :: vs, h => by
    simp only [shpB, Bool.and_eq_true] at h
    simp [lveq, veq, lveq_refl (ks := ks) (l := vs) h.2]
  | .bool :: ks, .bool _ :: vs, h => by simp [lveq, veq, lveq_refl (ks := ks) (l := vs) h]
  | .str :: ks, .string _ :: vs, h => by simp [lveq, veq, lveq_refl (ks := ks) (l := vs) h]
end Go.VV
namespace Go.VV
open Go Go.RowKit
section
variable {P : Program} {Γ : Ctx} {e : Env} {H : Heap} {d : Option Nat} {ty : TypeId} {pos : String} {af : Array Edge} {g : Option (Nat × Bool)}
theorem Row.seg {w : World} {b off : Nat} {L l : List Value} (h : Row w b off L) (k n : Nat) (hs : spine ((L.drop k).take n) = some l) : Row w b (off + k) l := fun j v hv => by
  rw [← spine_eq hs, List.getElem?_take] at hv
  split at hv
  · rw [List.getElem?_drop] at hv
    rw [Nat.add_assoc]; exact h _ _ hv
  · cases hv
/-- A part of a block of one's own. -/
theorem row_own_at {w0 : World} {ms : List Nat} {b : Nat} {l l' : List Value} {t : TypeId} {fr : Nat × Nat} (hm : (b, Obj.cells l.toArray t fr) ∈ H) (k n : Nat) (hs : spine ((l.drop k).take n) = some l') : ∀ w, St w0 ms H w → Row w b k l' := fun w hw => by
  have := (row_own (H := H) hm w hw).seg k n hs
  rwa [Nat.zero_add] at this
/-- append(s, x..), the slice's memory the last part of the heap. -/
theorem x_appendE {t : TypeId} {x y : Operand} {T s by_ : Nat} {v u : Value} {n m : Nat} {xs ys : List Value} {G A : Heap} {ts : Array TypeId}
    (hx : ev e x = v) (hy : ev e y = u) (hts : ts = #[t, t]) (hp : appP Γ.P t = some (T, s, by_)) (hv : Vec T s v n xs G)
    (hs : ∀ w, St Γ.w0 Γ.ms (A ++ G) w → Src w s u m ys) (h1 : ones ys = true) (hlen : n + m ≤ 140737488355328) (hb : (n + m) * by_ ≤ 140737488355328) :
    Op1 Γ ⟨d, .call ⟨.builtin .append, #[x, y], ts⟩, ty, pos, af, g⟩ e (A ++ G) (fun v' H' => ∃ G', Vec T s v' (n + m) (xs ++ ys) G' ∧ (v' = .slice none 0 0 → n = 0 ∧ m = 0) ∧ H' = G' ++ A) := by
  have key := x_append (Γ := Γ) (e := e) (d := d) (ty := ty) (pos := pos) (af := af) (g := g) (A := A) (R := []) hx hy hts hp hv (fun w hw => hs w (by simpa using hw)) h1 hlen hb
  intro w hw
  refine opW_mono (key w (by simpa using hw)) ?_
  rintro v' w' ⟨H', h2, G', h3, h4, rfl⟩
  exact ⟨G' ++ A, by simpa using h2, G', h3, h4, rfl⟩
theorem Vec.as {T s n n' : Nat} {v : Value} {xs xs' : List Value} {G : Heap} (h : Vec T s v n xs G) (hn : n = n') (hx : xs = xs') : Vec T s v n' xs' G := by subst hn hx; exact h
theorem Vec.full {T s : Nat} {v : Value} {n : Nat} {xs : List Value} {G : Heap} (h : Vec T s v n xs G) (hn : n ≠ 0) :
    ∃ b cap sp, v = .slice (some ⟨b, 0, none⟩) n cap ∧ G = [(b, blk (xs ++ sp) T)] ∧ (xs ++ sp).length = cap * s ∧ n ≤ cap ∧ cap ≤ maxLen := by
  cases h with
  | nil => exact absurd rfl hn
  | row b _ cap _ sp h1 h2 h3 h4 => exact ⟨b, cap, sp, rfl, rfl, h2, h4, h3⟩
theorem Vec.alt {T s : Nat} {v : Value} {n : Nat} {xs : List Value} {G : Heap} (h : Vec T s v n xs G) :
    (v = .slice none 0 0 ∧ n = 0 ∧ xs = [] ∧ G = []) ∨ ∃ b cap sp, v = .slice (some ⟨b, 0, none⟩) n cap ∧ G = [(b, blk (xs ++ sp) T)] ∧ (xs ++ sp).length = cap * s ∧ n ≤ cap ∧ cap ≤ maxLen := by
  cases h with
  | nil => exact .inl ⟨rfl, rfl, rfl, rfl⟩
  | row b _ cap _ sp h1 h2 h3 h4 => exact .inr ⟨b, cap, sp, rfl, rfl, h2, h4, h3⟩
/-- A slice of elements, whole. -/
theorem Vec.all_ {α : Type} {c : α → List Value} {T s b cap : Nat} {l : List α} {sp : List Value} (hc : ∀ x, (c x).length = s) (h2 : (flat c l ++ sp).length = cap * s) (h4 : l.length ≤ cap) (h3 : cap ≤ maxLen) :
    Vec T s (.slice (some ⟨b, 0, none⟩) l.length cap) l.length (flat c l) [(b, blk (flat c l ++ sp) T)] :=
  .row b _ cap _ sp (flat_len hc l) h2 h3 h4
theorem ones_flat_of {α : Type} {c : α → List Value} (h : ∀ x, ones (c x) = true) (l : List α) : ones (flat c l) = true := by
  refine List.all_eq_true.2 fun x hx => ?_
  unfold flat at hx
  obtain ⟨y, _, hy⟩ := List.mem_flatMap.1 hx
  exact List.all_eq_true.1 (h y) x hy
theorem St.lentV {w0 w : World} {ms : List Nat} {F G : Heap} (h : St w0 ms (F ++ G) w) : St w (F.map (·.1)) F w := by
  have hn := h.nodup
  rw [List.map_append, List.nodup_append] at hn
  exact ⟨rfl, rfl, rfl, Nat.le_refl _, fun _ _ _ => rfl, hn.1, fun x hx => .inl (List.mem_map.2 ⟨x, hx, rfl⟩), fun x hx => h.holds x (List.mem_append_left _ hx)⟩
theorem St.lentA {w0 w : World} {ms : List Nat} {F : Heap} (h : St w0 ms F w) : St w (F.map (·.1)) F w := by
  have : St w0 ms (F ++ []) w := by simpa using h
  exact this.lentV

/-! ### elements that go, out of the front -/
section
variable {α : Type} {c : α → List Value} {s : Nat} (hc : ∀ x, (c x).length = s)
include hc
theorem flat_drop (l : List α) (j : Nat) : (flat c l).drop (j * s) = flat c (l.drop j) := by
  rcases Nat.lt_or_ge j l.length with hj | hj
  · have h1 : flat c l = flat c (l.take j) ++ flat c (l.drop j) := by rw [← flat_append, List.take_append_drop]
    have h2 : (flat c (l.take j)).length = j * s := by rw [flat_len hc, List.length_take, Nat.min_eq_left (by omega)]
    rw [h1, ← h2, List.drop_left]
  · rw [List.drop_of_length_le hj, List.drop_of_length_le (by rw [flat_len hc]; exact Nat.mul_le_mul_right _ hj)]
    rfl
theorem row_dropE {w : World} {b off j cp : Nat} {l : List α} {sp : List Value} (hr : Row w b off (flat c l ++ sp)) (hj : j ≤ l.length) (hcp : l.length ≤ cp) : Row w b (cutAt off j s cp) (flat c (l.drop j)) := by
  have h1 := (hr.left).cut (l := j) (k := l.length - j) (s := s) (c := cp) (by omega)
  rw [flat_drop hc] at h1
  have h2 : (flat c (l.drop j)).length = (l.length - j) * s := by rw [flat_len hc, List.length_drop]
  rw [← h2, List.take_length] at h1
  exact h1
/-- Out of the front 'j' of them. -/
theorem del0_law (l : List α) (sp zs : List Value) {j : Nat} (_hj : j ≤ l.length) : ∃ sp', putL (putL (flat c l ++ sp) (0 * s) (flat c (l.drop j))) ((l.length - j) * s) zs = flat c (l.drop j) ++ sp' := by
  have h2 : (flat c (l.drop j)).length = (l.length - j) * s := by rw [flat_len hc, List.length_drop]
  rw [Nat.zero_mul]
  unfold putL
  rw [List.take_zero, List.nil_append, Nat.zero_add]
  refine ⟨zs ++ ((flat c l ++ sp).drop (flat c (l.drop j)).length).drop zs.length, ?_⟩
  rw [← h2, List.take_left, ← List.drop_drop, List.drop_left, List.append_assoc]
theorem del0_fits (l : List α) (sp : List Value) (j : Nat) : 0 * s + (flat c (l.drop j)).length ≤ (flat c l ++ sp).length := by
  rw [flat_len hc, List.length_append, flat_len hc, List.length_drop, Nat.zero_mul, Nat.zero_add]
  exact Nat.le_trans (Nat.mul_le_mul_right _ (by omega)) (Nat.le_add_right _ _)
end
theorem cutz (b off s n c : Nat) : Value.slice (some ⟨b, cutAt off 0 s c, none⟩) (n - 0) (c - 0) = .slice (some ⟨b, off, none⟩) n c := by
  simp only [cutAt, Nat.zero_mul, Nat.add_zero, ite_self, Nat.sub_zero]
end
end Go.VV
namespace Go.VV
open Go
theorem ck_i {k : IntKind} {ks : List CK} {cs : List Value} (h : Cks (.int k :: ks) cs) : ∃ n vs, cs = .int k n :: vs ∧ (Lit.int k n).wf = true ∧ Cks ks vs := by
  cases cs with
  | nil => exact h.elim
  | cons v vs => obtain ⟨⟨n, rfl, hn⟩, h2⟩ := h; exact ⟨n, vs, rfl, hn, h2⟩
theorem ck_b {ks : List CK} {cs : List Value} (h : Cks (.bool :: ks) cs) : ∃ n vs, cs = .bool n :: vs ∧ Cks ks vs := by
  cases cs with
  | nil => exact h.elim
  | cons v vs => obtain ⟨⟨n, rfl⟩, h2⟩ := h; exact ⟨n, vs, rfl, h2⟩
theorem ck_s {ks : List CK} {cs : List Value} (h : Cks (.str :: ks) cs) : ∃ n vs, cs = .string n :: vs ∧ n.size ≤ maxLen ∧ Cks ks vs := by
  cases cs with
  | nil => exact h.elim
  | cons v vs => obtain ⟨⟨n, rfl, hn⟩, h2⟩ := h; exact ⟨n, vs, rfl, hn, h2⟩
theorem ck_0 {cs : List Value} (h : Cks [] cs) : cs = [] := by
  cases cs with
  | nil => rfl
  | cons v vs => exact h.elim
end Go.VV
namespace Go.VV
open Go
section
variable {Γ : Ctx} {e : Env} {A : Heap} {d : Option Nat} {t : TypeId} {pos : String} {af : Array Edge} {g : Option (Nat × Bool)}
/-- A call that may turn all that there is. -/
theorem x_callA {f : Nat} {l : List Operand} {ts : Array TypeId} {vs : List Value} (hc : callable Γ.P f = true) (hv : evs e l = some vs) {R : Value → Heap → Prop}
    (hf : ∀ w, St Γ.w0 Γ.ms A w → Does Γ.P f vs w (A.map (·.1)) R) :
    Op1 Γ ⟨d, .call ⟨.value (.func f), l.toArray, ts⟩, t, pos, af, g⟩ e A (fun v H2 => R v H2) := by
  intro w hw
  have key := x_callF (Γ := Γ) (e := e) (d := d) (t := t) (pos := pos) (af := af) (g := g) (ts := ts) (A := A) (G := []) (A.map (·.1)) hc hv (R := R) (fun _ hb => mem_fst hb) (fun w hw => hf w (by simpa using hw))
  refine opW_mono (key w (by simpa using hw)) ?_
  rintro v w' ⟨H', h2, G', h3, rfl⟩
  exact ⟨G', by simpa using h2, h3⟩
end
/-- A slice that can be read; a nil one has none. -/
def SlW {α : Type} (w : World) (c : α → List Value) (a : Option Addr) (l : List α) : Prop := (a = none ∧ l = []) ∨ ∃ b off, a = some ⟨b, off, none⟩ ∧ Row w b off (flat c l)
theorem SlW.els {α : Type} {w : World} {c : α → List Value} {a : Option Addr} {l : List α} (h : SlW w c a l) : Els w c a l := by
  rcases h with ⟨_, rfl⟩ | ⟨b, off, h1, h2⟩
  · exact Els.nil _ _ _
  · exact fun _ => ⟨b, off, h1, h2⟩
theorem SlW.later0 {α : Type} {w0 w : World} {H : Heap} {c : α → List Value} {a : Option Addr} {l : List α} (h : SlW w0 c a l) (hw : St w0 [] H w) : SlW w c a l := by
  rcases h with h | ⟨b, off, h1, h2⟩
  · exact .inl h
  · exact .inr ⟨b, off, h1, row_old h2 (by simp) w hw⟩
theorem Vec.slw {α : Type} {c : α → List Value} {T s n : Nat} {v : Value} {G : Heap} {l : List α} (h : Vec T s v n (flat c l) G) (hc : ∀ x, (c x).length = s) (hs : 0 < s) :
    ∃ a cp, v = .slice a n cp ∧ l.length = n ∧ n ≤ cp ∧ (cp = 0 → n = 0) ∧ (a = none → cp = 0) ∧ ∀ w : World, (∀ x ∈ G, w.heap[x.1]? = some x.2) → SlW w c a l := by
  have hl := h.len
  rw [flat_len hc] at hl
  have hn : l.length = n := Nat.eq_of_mul_eq_mul_right hs hl
  generalize hx : flat c l = xs at h
  cases h with
  | nil => exact ⟨none, 0, rfl, hn, Nat.le_refl _, fun _ => rfl, fun _ => rfl, fun _ _ => .inl ⟨rfl, List.eq_nil_of_length_eq_zero hn⟩⟩
  | row b _ cap _ sp h1 h2 h3 h4 =>
    refine ⟨_, cap, rfl, hn, h4, fun h => by omega, fun h => by (cases h), fun w hw => .inr ⟨b, 0, rfl, ?_⟩⟩
    have := Row.all (w := w) (b := b) (hw _ (.head _))
    rw [← hx] at this
    exact this.left
end Go.VV
namespace Go.VV
open Go
theorem srow_own_at {Γ : Ctx} {F : Heap} {b : Nat} {l l' : List Value} {T : TypeId} {fr : Nat × Nat} (hm : (b, Obj.cells l.toArray T fr) ∈ F) (k n : Nat) (hs : spine ((l.drop k).take n) = some l') : ∀ w, Stood Γ F w → Row w b k l' :=
  fun w ⟨_, hw, hF⟩ => row_own_at (hF _ hm) k n hs w hw
end Go.VV
