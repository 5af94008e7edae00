/- Equality of flat structs. Plain lemmas; no program. -/
import Derived.Test.YtldehodcfajpjaaGreatQcF
set_option linter.unusedSimpArgs false
set_option linter.unusedVariables false
set_option maxRecDepth 100000
namespace Go.VV
open Go
def shpB : List CK → List Value → Bool
 | [], [] => true
 | .int k :: ks, .int k' _ :: vs => decide (k = k') && shpB ks vs
 | .bool :: ks, .bool _ :: vs => shpB ks vs
 | .str :: ks, .string _ :: vs => shpB ks vs
 | _, _ => false
def veq : Value → Value → Bool
 | .int _ a, .int _ b => a == b
 | .bool a, .bool b => a == b
 | .string a, .string b => a.toList == b.toList
 | _, _ => false
def lveq : List Value → List Value → Bool
 | [], [] => true
 | x :: xs, y :: ys => veq x y && lveq xs ys
 | _, _ => false
theorem shpB_split : ∀ {a b : List CK} {xs : List Value}, shpB (a ++ b) xs = true → ∃ x y, xs = x ++ y ∧ shpB a x = true ∧ shpB b y = true
 | [], b, xs, h => ⟨[], xs, rfl, rfl, h⟩
 | .int k :: a, b, .int k' n :: vs, h => by
  simp only [List.cons_append, shpB, Bool.and_eq_true] at h
  obtain ⟨x, y, rfl, h1, h2⟩ := shpB_split (a := a) (b := b) (xs := vs) h.2
  exact ⟨.int k' n :: x, y, rfl, by simp only [shpB, Bool.and_eq_true]; exact ⟨h.1, h1⟩, h2⟩
 | .bool :: a, b, .bool t :: vs, h => by
  obtain ⟨x, y, rfl, h1, h2⟩ := shpB_split (a := a) (b := b) (xs := vs) h
  exact ⟨.bool t :: x, y, rfl, h1, h2⟩
 | .str :: a, b, .string t :: vs, h => by
  obtain ⟨x, y, rfl, h1, h2⟩ := shpB_split (a := a) (b := b) (xs := vs) h
  exact ⟨.string t :: x, y, rfl, h1, h2⟩
theorem shpB_len : ∀ {a : List CK} {x : List Value}, shpB a x = true → x.length = a.length
 | [], [], _ => rfl
 | .int _ :: a, .int _ _ :: x, h => by
  simp only [shpB, Bool.and_eq_true] at h
  simp [shpB_len (a := a) (x := x) h.2]
 | .bool :: a, .bool _ :: x, h => by simp [shpB_len (a := a) (x := x) h]
 | .str :: a, .string _ :: x, h => by simp [shpB_len (a := a) (x := x) h]
theorem shp_int {k : IntKind} {x : List Value} (h : shpB [.int k] x = true) : ∃ n, x = [.int k n] := by
 cases x with
 | nil => simp [shpB] at h
 | cons v r =>
  cases v <;> simp [shpB] at h
  obtain ⟨rfl, h2⟩ := h
  cases r with
  | nil => exact ⟨_, rfl⟩
  | cons => simp [shpB] at h2
theorem lveq_app : ∀ {a b x y : List Value}, a.length = x.length → lveq (a ++ b) (x ++ y) = (lveq a x && lveq b y)
 | [], b, [], y, _ => by simp [lveq]
 | u :: a, b, v :: x, y, h => by
  simp only [List.cons_append, lveq]
  rw [lveq_app (by simpa using h), Bool.and_assoc]
section
variable (P : Program)
def eqOkF (f : TypeId → Bool) : List Field → Bool
 | [] => true
 | fd :: r => !(fd.name == "_") && f fd.type && eqOkF f r
def eqOk : Nat → TypeId → Bool
 | 0, _ => false
 | n + 1, t => match P.underlying t with
  | some (.int _) => true
  | some .bool => true
  | some .string => true
  | some (.struct ⟨fs⟩) => !(P.stoodInHeld t) && Nat.beq ((sizeP P t).getD 0) (P.cellsOf t) && (sizeP P t).isSome && eqOkF (eqOk n) fs
  | _ => false
def valP (t : TypeId) (xs : List Value) : Value := match P.underlying t with
 | some (.struct _) => .agg xs.toArray
 | _ => xs.headD undef
end
section
variable {P : Program}
theorem run_part {w : World} {t : TypeId} {m : Nat} {ks : List CK} {X x R : List Value} {off : Nat} (hk : kinds P m t = some ks) (he : eqOk P m t = true) (hx : shpB ks x = true) (hX : X.drop off = x ++ R) (hc : P.cellsOf t = ks.length) :
  (part t X.toArray off).run P w = .ok (valP P t x) w := by
 have hlen := shpB_len hx
 cases m with
 | zero => cases hk
 | succ m =>
  simp only [kinds] at hk
  simp only [eqOk] at he
  split at hk
  ·rename_i k ht
   cases hk
   obtain ⟨n, rfl⟩ := shp_int hx
   ·have h0 : X[off]? = some (.int k n) := by
     have := congrArg (·[0]?) hX
     simpa using this
    simp [part, isAgg, run_underlying ht, h0, valP, ht]
  ·rename_i ht
   cases hk
   match x, hx with
   | [.bool n], _ =>
    have h0 : X[off]? = some (.bool n) := by
     have := congrArg (·[0]?) hX
     simpa using this
    simp [part, isAgg, run_underlying ht, h0, valP, ht]
  ·rename_i ht
   cases hk
   match x, hx with
   | [.string n], _ =>
    have h0 : X[off]? = some (.string n) := by
     have := congrArg (·[0]?) hX
     simpa using this
    simp [part, isAgg, run_underlying ht, h0, valP, ht]
  ·rename_i fs ht
   rw [ht] at he
   simp only [Bool.and_eq_true] at he
   obtain ⟨⟨⟨_, h1⟩, h2⟩, _⟩ := he
   obtain ⟨n, hn⟩ := Option.isSome_iff_exists.1 h2
   rw [hn] at h1
   have h3 := Nat.eq_of_beq_eq_true h1
   simp only [Option.getD_some] at h3
   have hsz := run_sizeOf hn w
   have h5 : (X.drop off).take n = x := by
    rw [hX, h3, hc, ← hlen, List.take_left']
    rfl
   simp [part, isAgg, run_underlying ht, hsz, valP, ht]
   exact h5
  ·cases hk
theorem run_eq_flat : ∀ (m : Nat) {d : Nat} {w : World} {t : TypeId} {ks : List CK} {x y : List Value}, m ≤ d → kinds P m t = some ks → eqOk P m t = true → shpB ks x = true → shpB ks y = true →
  (Op.equalIn d t (valP P t x) (valP P t y)).run P w = .ok (lveq x y) w
 | 0, _, _, _, _, _, _, _, h, _, _, _ => by cases h
 | m + 1, 0, _, _, _, _, _, hd, _, _, _, _ => by omega
 | m + 1, d + 1, w, t, ks, x, y, hd, hk, he, hx, hy => by
  simp only [kinds] at hk
  simp only [eqOk] at he
  split at hk
  ·rename_i k ht
   cases hk
   obtain ⟨n, rfl⟩ := shp_int hx
   obtain ⟨n2, rfl⟩ := shp_int hy
   simp [valP, ht, run_equalIn_int w d t k k n n2 ht, lveq, veq]
  ·rename_i ht
   cases hk
   match x, y, hx, hy with
   | [.bool n], [.bool n2], _, _ => simp [valP, ht, run_equalIn_bool' w d t n n2 ht, lveq, veq]
  ·rename_i ht
   cases hk
   match x, y, hx, hy with
   | [.string n], [.string n2], _, _ => simp [valP, ht, run_equalIn_string w d t n n2 ht, lveq, veq]
  ·rename_i fs ht
   rw [ht] at he
   simp only [Bool.and_eq_true, Bool.not_eq_true'] at he
   obtain ⟨⟨⟨hst, _⟩, _⟩, hof⟩ := he
   split at hk
   ·rename_i k1 hk1
    by_cases hb : Nat.beq (P.cellsOf t) k1.length = true
    ·rw [hb, cond_true] at hk
     cases hk
     have hfo : P.fieldsOf t = ⟨fs⟩ := by simp [Program.fieldsOf, ht]
     have hv : ∀ z, valP P t z = .agg z.toArray := fun z => by simp [valP, ht]
     rw [hv, hv, run_equalIn_struct w d t _ _ (by rw [hfo]; exact ht) hst, hfo]
     have key : ∀ (fs : List Field) (off : Nat) (ks : List CK) (x1 y1 : List Value), kindsF P (kinds P m) fs off = some ks → eqOkF (eqOk P m) fs = true → shpB ks x1 = true → shpB ks y1 = true → (∃ r, x.drop off = x1 ++ r) → (∃ r, y.drop off = y1 ++ r) →
       (Op.eqFields d x.toArray y.toArray fs).run P w = .ok (lveq x1 y1) w := by
      intro fs
      induction fs with
      | nil =>
       intro off ks x1 y1 h1 _ h3 h4 _ _
       cases h1
       match x1, y1, h3, h4 with
       | [], [], _, _ => simp [Op.eqFields, lveq]
      | cons f fs ih =>
       intro off ks x1 y1 h1 h2 h3 h4 h5 h6
       simp only [kindsF] at h1
       simp only [eqOkF, Bool.and_eq_true, Bool.not_eq_true'] at h2
       split at h1
       ·rename_i k2 hk2
        by_cases hb2 : (Nat.beq f.offset off && Nat.beq (P.cellsOf f.type) k2.length) = true
        ·rw [hb2, cond_true] at h1
         simp only [Bool.and_eq_true] at hb2
         have e1 := Nat.eq_of_beq_eq_true hb2.1
         have e2 := Nat.eq_of_beq_eq_true hb2.2
         split at h1
         ·rename_i rs hrs
          cases h1
          obtain ⟨xa, xb, rfl, ha1, ha2⟩ := shpB_split h3
          obtain ⟨ya, yb, rfl, hb1, hb2⟩ := shpB_split h4
          obtain ⟨r1, hr1⟩ := h5
          obtain ⟨r2, hr2⟩ := h6
          have p1 := run_part (w := w) hk2 h2.1.2 ha1 (by rw [hr1, List.append_assoc]) e2
          have p2 := run_part (w := w) hk2 h2.1.2 hb1 (by rw [hr2, List.append_assoc]) e2
          have p3 := run_eq_flat m (d := d) (w := w) (by omega) hk2 h2.1.2 ha1 hb1
          have hnm : f.name ≠ "_" := by
           have := h2.1.1
           intro h0; rw [h0] at this; simp at this
          have l1 := shpB_len ha1
          have l2 := shpB_len hb1
          have p4 := ih (off + k2.length) rs xb yb hrs h2.2 ha2 hb2 ⟨r1, by rw [← List.drop_drop, hr1, List.append_assoc, List.drop_left' l1]⟩ ⟨r2, by rw [← List.drop_drop, hr2, List.append_assoc, List.drop_left' l2]⟩
          rw [lveq_app (l1.trans l2.symm)]
          simp only [Op.eqFields, if_pos hnm, Sem.run_bind, e1, p1, p2, p3, Result.andThen_ok]
          cases lveq xa ya
          ·simp
          ·simpa using p4
         ·cases h1
        ·simp only [Bool.not_eq_true] at hb2
         rw [hb2, cond_false] at h1
         cases h1
       ·cases h1
     exact key fs 0 _ x y hk1 hof hx hy ⟨[], by simp⟩ ⟨[], by simp⟩
    ·simp only [Bool.not_eq_true] at hb
     rw [hb, cond_false] at hk
     cases hk
   ·cases hk
  ·cases hk
section
variable {e : Env} {d : Option Nat} {t u ty : TypeId} {pos : String} {af : Array Edge} {g : Option (Nat × Bool)} {x y : Operand} {l r : List Value} {ks : List CK}
def eqsB (P : Program) (t : TypeId) : Bool := eqOk P 9 t && !(P.eqGuardType P.depth t) && (match P.underlying t with
 | some (.struct _) => true
 | _ => false)
variable {Γ : Ctx} {H : Heap} {k : Kont} {ops rest : List Oper} {S : World → Prop} {need : List Nat} {pl : Plan} {i : Nat}
end
end
theorem lveq_refl : ∀ {ks : List CK} {l : List Value}, shpB ks l = true → lveq l l = true
 | [], [], _ => rfl
 | .int _ :: ks, .int _ _ :: vs, h => by
  simp only [shpB, Bool.and_eq_true] at h
  simp [lveq, veq, lveq_refl (ks := ks) (l := vs) h.2]
 | .bool :: ks, .bool _ :: vs, h => by simp [lveq, veq, lveq_refl (ks := ks) (l := vs) h]
 | .str :: ks, .string _ :: vs, h => by simp [lveq, veq, lveq_refl (ks := ks) (l := vs) h]
end Go.VV
namespace Go.VV
open Go Go.RowKit
end Go.VV
namespace Go.VV
open Go
end Go.VV
namespace Go.VV
open Go
end Go.VV
namespace Go.VV
open Go
end Go.VV
