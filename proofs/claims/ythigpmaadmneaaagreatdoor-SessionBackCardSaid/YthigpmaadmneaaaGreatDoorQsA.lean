/- Parts. -/
import Derived.Below
import Derived.Laws.CopyRow
import Derived.Laws.OwnMore
import Derived.Laws.Rows
import Derived.Lib.SmallJoins
import Derived.OpenShut
import Derived.OrdersHeld
import Derived.OrdersIn
import Derived.ProofKit
import Derived.RangeFuncIn
import Derived.RangeFuncLeaves
import Derived.Room.Entries
import Derived.TacticsIn
import Derived.WalkKit
set_option maxRecDepth 100000
set_option maxHeartbeats 1000000
set_option linter.all false
namespace Go
def ae := @if_neg
def ag := @if_pos
def ah := @decide_eq_false_iff_not
def ai := @Nat.le_of_ble_eq_true
def aj := @Option.some.inj
def ak := @List.set_cons_zero
def al := @decide_eq_true_eq
def am := @List.getElem?_eq_getElem
def ap := @decide_eq_true
def aq := @beq_eq_false_iff_ne
def ar := @bne_eq_false_iff_eq
def au := @Result.andThen_ok
def av := @Nat.zero_le
def aw := @List.append_nil
def ax := @List.length_nil
def ay := @Sem.run_bind
def az := @List.length_singleton
def bf := @List.set_cons_succ
def bg := @List.perm_append_comm
def bi := @Nat.le_refl
def bj := @List.sublist_cons_self
def bq := @List.nil_append
def bw := @List.drop_drop
def bz := @List.map_append
def ca := @Sem.run_pure
def cg := @Nat.zero_add
def ci := @beq_iff_eq
def cj := @List.sublist_append_left
def cn := @Int.tmod_eq_emod_of_nonneg
def cq := @Bool.and_eq_true
def cr := @bne_iff_ne
def ct := @List.cons_append
def cu := @List.map_cons
def cw := @List.mem_of_getElem?
def cx := @List.length_replicate
def cy := @List.length_set
def cz := @decide_eq_false
def da := @Nat.eq_of_beq_eq_true
def db := @Int.toNat_natCast
def dd := @List.getD_eq_getElem?_getD
def de := @List.append_assoc
def df := @List.getElem?_map
def dg := @List.eq_nil_of_length_eq_zero
def dh := @List.mem_of_mem_take
def di := @List.mem_of_mem_drop
def dj := @List.map_toArray
def dk := @List.map_nil
def dm := @List.take_of_length_le
def dp := @List.getElem?_append_left
def dq := @List.take_length
def dr := @of_decide_eq_true
def dt := @Nat.lt_or_ge
def du := @List.nil_sublist
def dw := @of_decide_eq_false
def dx := @List.getElem?_toArray
def dz := @List.take_append_drop
def d5 := @List.set_eq_take_append_cons_drop
def d6 := @Int.toNat_of_nonneg
def d7 := @List.Perm.append_right
def d8 := @List.drop_of_length_le
def d9 := @Nat.eq_zero_or_pos
def ea := @List.getElem?_eq_none
def ec := @List.not_mem_nil
def ed := @List.nodup_append
def ee := @List.getElem?_drop
def ef := @Nat.lt_of_lt_of_le
def eg := @List.mem_cons
def eh := @Nat.add_assoc
def ei := @List.length_append
def ej := @List.range_succ
def eo := @Bool.true_eq_false
def ep := @Bool.false_eq_true
def eq := @List.getElem?_cons_succ
def er := @List.getElem?_append_right
def et := @Int.fdiv_eq_ediv_of_nonneg
def eu := @List.toList_toArray
def ew := @List.sublist_append_right
def ey := @List.mem_or_eq_of_mem_set
def ez := @List.drop_left'
def fe := @List.getElem?_take
def fh := @List.getElem_mem
def fi := @List.Sublist.append_left
def fj := @List.getElem?_cons_zero
def fk := @List.take_add_one
def fm := @List.flatMap_cons
def fo := @Bool.eq_iff_iff
def fp := @Array.getElem?_eq_none
def fq := @Nat.mul_one
def fu := @List.take_succ_eq_append_getElem
def fv := @Nat.min_eq_left
def fw := @Nat.and_two_pow_sub_one_eq_mod
def fx := @Int.emod_nonneg
def fy := @List.take_left'
def fz := @List.map_take
def f0 := @List.length_take
def f2 := @Bool.not_eq_true
def f4 := @List.drop_left
def f5 := @BitVec.toNat_ofInt
def f6 := @Nat.two_pow_add_eq_or_of_lt
def f7 := @Int.emod_lt_of_pos
def f8 := @List.mem_append_right
def ga := @List.all_append
def gb := @Bool.not_eq_true'
def gc := @Nat.mul_le_mul_right
def ge := @List.getElem?_set_ne
def gf := @Nat.pow_le_pow_right
def gh := @List.drop_eq_getElem_cons
def gi := @List.take_zero
def gj := @Nat.zero_mul
def gk := @Nat.mul_comm
def gl := @List.getElem_of_mem
def gm := @Array.getElem?_setIfInBounds_ne
def gn := @Nat.add_sub_cancel_left
def go := @List.all_cons
def gp := @Int.pow_pos
def gq := @List.drop_eq_nil_of_le
def gr := @Nat.add_zero
def gt := @List.mem_range
def gu := @Array.getElem?_modify
def gv := @List.length_filter_le
def gw := @Array.getD_eq_getD_getElem?
def gz := @List.length_drop
def g9 := @List.mem_append_left
def ia := @BitVec.toNat_and
def ib := @List.length_dropLast
def ic := @Bool.true_and
def ie := @List.map_drop
def ig := @List.getElem?_range
def ii := @Nat.zero_lt_one
def ij := @Nat.le_trans
def ik := @List.mem_singleton
def il := @Nat.add_comm
def im := @Int.natCast_nonneg
def io := @Nat.mod_lt
def ip := @List.take_left
def iq := @List.foldl_append
def ir := @Nat.pow_pos
def iu := @List.getElem?_set_self
def iv := @Int.le_refl
def iw := @List.take_add
def iy := @Bool.and_true
def iz := @List.length_cons
def i2 := @List.drop_append
def i3 := @Nat.testBit_shiftLeft
def i4 := @Int.emod_add_mul_ediv
def i5 := @List.nodup_cons
def i6 := @Option.map_some
def i7 := @Option.map_none
def ja := @List.mem_append
def jb := @List.foldl_cons
def jc := @List.length_map
def jd := @List.mem_map
def je := @Nat.eq_of_testBit_eq
def jf := @Nat.pow_succ
def jg := @Int.mul_le_mul_of_nonneg_right
def ji := @List.take_append_of_le_length
def jj := @List.drop_append_of_le_length
def jk := @Nat.add_mul
def jn := @Nat.sub_sub
def jo := @List.map_replicate
def jp := @Nat.eq_of_mul_eq_mul_right
def jq := @Int.tdiv_eq_ediv_of_nonneg
def jr := @List.size_toArray
def jt := @List.getElem?_set
def ju := @List.mem_of_find?_eq_some
def jv := @Nat.shiftRight_eq_div_pow
def jw := @Array.getElem?_replicate
def jx := @List.ext_getElem
def jy := @List.map_map
def jz := @List.take_append
def j1 := @Int.ediv_le_self
def j2 := @Nat.sub_self
def j3 := @Nat.shiftLeft_eq
def j4 := @Int.le_of_lt
def j5 := @Nat.succ_mul
def j6 := @List.all_nil
def j7 := @List.filter_cons
def j8 := @Bool.or_eq_true
def ka := @Int.natCast_mul
def kb := @Int.ediv_nonneg
def kc := @Nat.two_pow_pos
def ke := @Nat.testBit_and
def kf := @Nat.max_eq_left
def kg := @Nat.or_comm
def kh := @List.drop_zero
def ki := @Nat.mul_le_mul
abbrev AA := List Value
abbrev AB := List Int
abbrev AC := Option Addr
abbrev AD := Option Nat
abbrev AE := List Nat
abbrev AF := List Operand
abbrev AG := Array Edge
abbrev AH := Value
abbrev AI := World
abbrev AJ := TypeId
abbrev AK := Operand
abbrev AL := Program
abbrev AM := IntKind
theorem U.{u} {α : Sort u} {a : α} : a = a := rfl
end Go
namespace Go.VV
open Go Go.RowKit
abbrev bB := Nat → AH
def bB.set (e : bB) (d : Nat) (v : AH) : bB := fun t => bif Nat.beq t d then v else e t
def bB.put (e : bB) : AD → AH → bB
 | some d, v => e.set d v
 | none, _ => e
def ev (e : bB) : AK → AH
 | .tmp t => e t
 | .const v => v
 | .global g => .pointer (some ⟨g, 0, none⟩)
 | .func f => .func (.func f) #[] #[]
structure kX (n : Nat) (D : List Deferred) (e : bB) (a : Act) : Prop where
 defers : a.defers = D
 size : a.tmps.size = n
 look : e = fun t => a.tmps.getD t undef
def kX.eval {n : Nat} {D : List Deferred} {e : bB} {a : Act} (h : kX n D e a) : a.eval = ev e := by
 funext x
 cases x <;> simp [Act.eval, ev, h.look]
def eS (n : Nat) : AD → Bool
 | some d => Nat.blt d n
 | none => true
def kX.put {n : Nat} {D : List Deferred} {e : bB} {a : Act} (h : kX n D e a) {d : AD} (hd : eS n d = true) (v : AH) : kX n D (e.put d v) (a.put d v) := by
 cases d with
 | none => exact h
 | some d =>
  have hlt : d < n := by simpa [eS] using hd
  refine ⟨h.defers, by simp [Act.put, h.size], ?_⟩
  funext t
  have hs := h.size
  simp only [bB.put, bB.set, Act.put, h.look]
  by_cases ht : t = d
  ·subst ht
   simp [hs, hlt]
  ·have hb : Nat.beq t d = false := by
    cases hx : Nat.beq t d
    ·rfl
    ·exact absurd (da hx) ht
   simp [hb, gm (Ne.symm ht)]
abbrev aF := List (Nat × Obj)
structure St (w0 : AI) (ms : AE) (L : aF) (w : AI) : Prop where
 os : w.os = w0.os
 tape : w.tape = w0.tape
 output : w.output = w0.output
 size : w0.heap.size ≤ w.heap.size
 block : ∀ k, k < w0.heap.size → k ∉ ms → w.heap[k]? = w0.heap[k]?
 nodup : (L.map (·.1)).Nodup
 own : ∀ x ∈ L, x.1 ∈ ms ∨ w0.heap.size ≤ x.1
 holds : ∀ x ∈ L, w.heap[x.1]? = some x.2
def St.refl (w : AI) : St w [] [] w := ⟨rfl, rfl, rfl, bi _, fun _ _ _ => rfl, by simp, by simp, by simp⟩
def St.drew {w0 w : AI} {ms : AE} {L : aF} (h : St w0 ms L w) : St w0 ms L { w with drawn := w.drawn + 1 } :=
 ⟨h.os, h.tape, h.output, h.size, h.block, h.nodup, h.own, h.holds⟩
def St.lt {w0 w : AI} {ms : AE} {L : aF} (h : St w0 ms L w) {x : Nat × Obj} (hx : x ∈ L) : x.1 < w.heap.size := by
 have := h.holds x hx
 by_cases hlt : x.1 < w.heap.size
 ·exact hlt
 ·rw [fp (by omega)] at this; cases this
def St.sub {w0 w : AI} {ms : AE} {L L' : aF} (h : St w0 ms L w) (hs : L'.Sublist L) : St w0 ms L' w :=
 ⟨h.os, h.tape, h.output, h.size, h.block, (hs.map _).nodup h.nodup, fun x hx => h.own x (hs.subset hx), fun x hx => h.holds x (hs.subset hx)⟩
def St.perm {w0 w : AI} {ms : AE} {L L' : aF} (h : St w0 ms L w) (hs : L.Perm L') : St w0 ms L' w :=
 ⟨h.os, h.tape, h.output, h.size, h.block, (hs.map _).nodup_iff.1 h.nodup, fun x hx => h.own x (hs.symm.subset hx), fun x hx => h.holds x (hs.symm.subset hx)⟩
def St.alloc {w0 w : AI} {ms : AE} {L : aF} (h : St w0 ms L w) (o : Obj) : St w0 ms ((w.heap.size, o) :: L) (w.alloc o) := by
 refine ⟨h.os, h.tape, h.output, ?_, ?_, ?_, ?_, ?_⟩
 ·have := h.size; show _ ≤ (w.heap.push o).size; simp; omega
 ·intro k hk hm
  show (w.heap.push o)[k]? = _
  have := h.size
  rw [Array.getElem?_push, ae (by omega)]
  exact h.block k hk hm
 ·simp only [cu, i5]
  refine ⟨fun hm => ?_, h.nodup⟩
  obtain ⟨x, hx, hxe⟩ := List.mem_map.1 hm
  have := h.lt hx
  omega
 ·intro x hx
  rcases List.mem_cons.1 hx with rfl | hx
  ·exact .inr h.size
  ·exact h.own x hx
 ·intro x hx
  show (w.heap.push o)[x.1]? = _
  rcases List.mem_cons.1 hx with rfl | hx
  ·simp
  ·have := h.lt hx
   rw [Array.getElem?_push, ae (by omega)]
   exact h.holds x hx
def St.turn {w0 w w' : AI} {ms : AE} {L : aF} {b : Nat} {o o' : Obj} (h : St w0 ms ((b, o) :: L) w)
  (h1 : w'.os = w.os) (h2 : w'.tape = w.tape) (h3 : w'.output = w.output) (h4 : w'.heap.size = w.heap.size)
  (h5 : ∀ k, k ≠ b → w'.heap[k]? = w.heap[k]?) (h6 : w'.heap[b]? = some o') : St w0 ms ((b, o') :: L) w' := by
 have hnd := h.nodup
 simp only [cu, i5] at hnd
 refine ⟨h1.trans h.os, h2.trans h.tape, h3.trans h.output, by rw [h4]; exact h.size, ?_, ?_, ?_, ?_⟩
 ·intro k hk hm
  by_cases hkb : k = b
  ·subst hkb
   rcases h.own (k, o) (by simp) with h7 | h7
   ·exact absurd h7 hm
   ·simp at h7; omega
  ·rw [h5 k hkb]; exact h.block k hk hm
 ·simpa using hnd
 ·intro x hx
  rcases List.mem_cons.1 hx with rfl | hx
  ·exact h.own (b, o) (by simp)
  ·exact h.own x (by simp [hx])
 ·intro x hx
  rcases List.mem_cons.1 hx with rfl | hx
  ·exact h6
  ·have hne : x.1 ≠ b := fun he => hnd.1 (he ▸ List.mem_map.2 ⟨x, hx, rfl⟩)
   rw [h5 _ hne]
   exact h.holds x (by simp [hx])
def St.old {w0 w : AI} {ms : AE} {L : aF} (h : St w0 ms L w) {b : Nat} {o : Obj} (hb : w0.heap[b]? = some o) (hm : b ∉ ms) : w.heap[b]? = some o := by
 have hlt : b < w0.heap.size := by
  by_cases hlt : b < w0.heap.size
  ·exact hlt
  ·rw [fp (by omega)] at hb; cases hb
 rw [h.block b hlt hm]; exact hb
def St.call {w0 w w' : AI} {ms ms2 : AE} {F F' R : aF} (h : St w0 ms (F ++ R) w) (hms : ∀ b ∈ ms2, ∃ o, (b, o) ∈ F) (h' : St w ms2 F' w') : St w0 ms (F' ++ R) w' := by
 have hsz := h.size
 have key : ∀ b ∈ ms2, b ∈ ms ∨ w0.heap.size ≤ b := fun b hb => by
  obtain ⟨o, ho⟩ := hms b hb
  exact h.own (b, o) (by simp [ho])
 have hnd := h.nodup
 rw [bz, ed] at hnd
 obtain ⟨hF, hR, hFR⟩ := hnd
 have hRlt : ∀ x ∈ R, x.1 < w.heap.size := fun x hx => h.lt (by simp [hx])
 have hRm : ∀ x ∈ R, x.1 ∉ ms2 := fun x hx hm => by
  obtain ⟨o, ho⟩ := hms _ hm
  exact hFR _ (List.mem_map.2 ⟨_, ho, U⟩) _ (List.mem_map.2 ⟨x, hx, U⟩) U
 refine ⟨h'.os.trans h.os, h'.tape.trans h.tape, h'.output.trans h.output, ij hsz h'.size, ?_, ?_, ?_, ?_⟩
 ·intro k hk hm
  by_cases hk2 : k ∈ ms2
  ·rcases key k hk2 with h1 | h1
   ·exact absurd h1 hm
   ·omega
  ·rw [h'.block k (by omega) hk2]; exact h.block k hk hm
 ·rw [bz, ed]
  refine ⟨h'.nodup, hR, ?_⟩
  intro a ha b hb hab
  obtain ⟨x, hx, rfl⟩ := List.mem_map.1 ha
  obtain ⟨y, hy, rfl⟩ := List.mem_map.1 hb
  rcases h'.own x hx with h1 | h1
  ·exact hRm y hy (hab ▸ h1)
  ·have := hRlt y hy; omega
 ·intro x hx
  rcases List.mem_append.1 hx with hx | hx
  ·rcases h'.own x hx with h1 | h1
   ·exact key _ h1
   ·exact .inr (by omega)
  ·exact h.own x (by simp [hx])
 ·intro x hx
  rcases List.mem_append.1 hx with hx | hx
  ·exact h'.holds x hx
  ·rw [h'.block x.1 (hRlt x hx) (hRm x hx)]
   exact h.holds x (by simp [hx])
structure fT where
 N : bB → aF → Prop
 R : bB → aF → Prop
 X : List (Nat × (bB → aF → Prop))
def oX : List (Nat × (bB → aF → Prop)) → Nat → Option (bB → aF → Prop)
 | [], _ => none
 | (i, K) :: r, j => bif Nat.beq i j then some K else oX r j
def fT.at (k : fT) : Exit → bB → aF → Prop
 | .normal, e, L => k.N e L
 | .ret, e, L => k.R e L
 | .exit id, e, L => match oX k.X (2 * id) with
  | some K => K e L
  | none => False
 | .goto l, e, L => match oX k.X (2 * l + 1) with
  | some K => K e L
  | none => False
 | _, _, _ => False
def yM {X : List (Nat × (bB → aF → Prop))} {i j : Nat} {K : bB → aF → Prop} (h : i ≠ j) : oX ((i, K) :: X) j = oX X j := by
 have hb : Nat.beq i j = false := by
  cases hx : Nat.beq i j
  ·rfl
  ·exact absurd (da hx) h
 simp only [oX, hb, cond_false]
def Ih {X : List (Nat × (bB → aF → Prop))} {i : Nat} {K : bB → aF → Prop} : oX ((i, K) :: X) i = some K := by
 have hb : Nat.beq i i = true := Nat.beq_refl i
 simp only [oX, hb, cond_true]
def Q (n : Nat) (D : List Deferred) (w0 : AI) (ms : AE) (k : fT) (x : Exit) (a : Act) (w : AI) : Prop :=
 ∃ e L, kX n D e a ∧ St w0 ms L w ∧ k.at x e L
structure dQ where
 P : AL
 n : Nat
 w0 : AI
 ms : AE
 r : AD := none
 D : List Deferred := []
def Fr (r : AD) : Fence := { fn := fun _ => True, depth := none, alive := false, round := r }
def C (Γ : dQ) (c : Code) (k : fT) (e : bB) (L : aF) : Prop :=
 ∀ a w, kX Γ.n Γ.D e a → St Γ.w0 Γ.ms L w → Code.wpIn (Fr Γ.r) 0 Γ.P c (Q Γ.n Γ.D Γ.w0 Γ.ms k) a w
def Q.mono {n : Nat} {D : List Deferred} {w0 : AI} {ms : AE} {k k' : fT} (h : ∀ x e L, k.at x e L → k'.at x e L) {x : Exit} {a : Act} {w : AI} (q : Q n D w0 ms k x a w) : Q n D w0 ms k' x a w :=
 let ⟨e, L, h1, h2, h3⟩ := q
 ⟨e, L, h1, h2, h _ _ _ h3⟩
section rules
variable {Γ : dQ} {k : fT} {e : bB} {L : aF}
def N0 {x y : Code} (h : C Γ x ⟨fun e L => C Γ y k e L, k.R, k.X⟩ e L) : C Γ (.seq x y) k e L := by
 intro a w ha hw
 refine wpIn_seq (wpIn_mono (h a w ha hw) ?_)
 rintro ex a' w' ⟨e', L', h1, h2, h3⟩
 cases ex <;> simp only [fT.at, Exit.then] at h3 ⊢
 case normal => exact h3 a' w' h1 h2
 case exit id => exact ⟨e', L', h1, h2, h3⟩
 case goto l => exact ⟨e', L', h1, h2, h3⟩
 case ret => exact ⟨e', L', h1, h2, h3⟩
def aBs (h : k.N e L) : C Γ .skip k e L := fun _ _ ha hw => wpIn_skip ⟨e, L, ha, hw, h⟩
def aJf (h : k.R e L) : C Γ .ret k e L := fun _ _ ha hw => wpIn_ret ⟨e, L, ha, hw, h⟩
def aPa {id : Nat} {K : bB → aF → Prop} (hk : oX k.X (2 * id) = some K) (h : K e L) : C Γ (.exit id) k e L :=
 fun _ _ ha hw => wpIn_exit ⟨e, L, ha, hw, by simp only [fT.at, hk]; exact h⟩
def aQ5 {l : Nat} {K : bB → aF → Prop} (hk : oX k.X (2 * l + 1) = some K) (h : K e L) : C Γ (.goto l) k e L :=
 fun _ _ ha hw => wpIn_goto ⟨e, L, ha, hw, by simp only [fT.at, hk]; exact h⟩
def aMq {l : Nat} (h : k.N e L) : C Γ (.label l) k e L := fun _ _ ha hw => wpIn_label ⟨e, L, ha, hw, h⟩
def aH3 {id : Nat} {c : Code} (h : C Γ c ⟨k.N, k.R, (2 * id, k.N) :: k.X⟩ e L) : C Γ (.block id c) k e L := by
 intro a w ha hw
 refine wpIn_block (wpIn_mono (h a w ha hw) ?_)
 rintro ex a' w' ⟨e', L', h1, h2, h3⟩
 cases ex <;> simp only [fT.at, Exit.inBlock] at h3 ⊢
 case normal => exact ⟨e', L', h1, h2, h3⟩
 case ret => exact ⟨e', L', h1, h2, h3⟩
 case goto l =>
  rw [yM (by omega)] at h3
  exact ⟨e', L', h1, h2, h3⟩
 case exit id' =>
  by_cases hid : id' = id
  ·subst hid
   rw [Ih] at h3
   rw [ag rfl]
   exact ⟨e', L', h1, h2, h3⟩
  ·rw [yM (by omega)] at h3
   rw [ae hid]
   exact ⟨e', L', h1, h2, h3⟩
def Sv {c : AK} {x y : Code} {t : Bool} (hc : ev e c = .bool t) (h1 : t = true → C Γ x k e L) (h2 : t = false → C Γ y k e L) : C Γ (.cond c x y) k e L := by
 intro a w ha hw
 refine wpIn_cond_split (t := t) (by rw [ha.eval]; exact hc) (fun ht => h1 ht a w ha hw) (fun ht => h2 ht a w ha hw)
def aPS {c : AK} {x y : Code} (hc : ev e c = .bool true) (h1 : C Γ x k e L) : C Γ (.cond c x y) k e L := Sv hc (fun _ => h1) (fun h => by cases h)
def aM8 {c : AK} {x y : Code} (hc : ev e c = .bool false) (h1 : C Γ y k e L) : C Γ (.cond c x y) k e L := Sv hc (fun h => by cases h) (fun _ => h1)
def aCj {c : Code} {k' : fT} (h : C Γ c k e L) (hk : ∀ x e L, k.at x e L → k'.at x e L) : C Γ c k' e L :=
 fun a w ha hw => wpIn_mono (h a w ha hw) fun _ _ _ q => q.mono hk
def kG {c : Code} {L' : aF} (hs : ∀ w, St Γ.w0 Γ.ms L w → St Γ.w0 Γ.ms L' w) (h : C Γ c k e L') : C Γ c k e L :=
 fun a w ha hw => h a w ha (hs w hw)
def mix (M : AE) (vs : List (Nat × AH)) (x e : bB) : bB := fun t =>
 match vs.find? (fun p => Nat.beq p.1 t) with
 | some p => p.2
 | none => bif M.any (Nat.beq t) then x t else e t
def jJ (M : AE) (e' e : bB) : Prop := ∀ t, M.any (Nat.beq t) = false → e' t = e t
def jJ.refl (M : AE) (e : bB) : jJ M e e := fun _ _ => rfl
def jJ.set {M : AE} {e' e : bB} {d : Nat} {v : AH} (hd : M.any (Nat.beq d) = true) (h : jJ M e' e) : jJ M (e'.set d v) e := fun t ht => by
 have hb : Nat.beq t d = false := by
  cases hx : Nat.beq t d
  ·rfl
  ·have := da hx; subst this; rw [ht] at hd; cases hd
 simp only [bB.set, hb, cond_false]
 exact h t ht
def jJ.put {M : AE} {e' e : bB} {d : Nat} {v : AH} (hd : M.any (Nat.beq d) = true) (h : jJ M e' e) : jJ M (e'.put (some d) v) e := h.set hd
def jJ.mix {M : AE} {vs : List (Nat × AH)} {x e : bB} (hv : vs.all (fun p => M.any (Nat.beq p.1)) = true) : jJ M (mix M vs x e) e := fun t ht => by
 have hf : vs.find? (fun p => Nat.beq p.1 t) = none := by
  rw [List.find?_eq_none]
  intro p hp hb
  have h1 := (List.all_eq_true.1 hv) p hp
  have h2 := da hb
  rw [h2] at h1; rw [ht] at h1; cases h1
 simp only [VV.mix, hf, ht, cond_false]
def nW (e : bB) (vs : List (Nat × AH)) : Prop := ∀ p ∈ vs, e p.1 = p.2
def nW.nil {e : bB} : nW e [] := fun _ h => by cases h
def nW.cons {e : bB} {t : Nat} {v : AH} {vs : List (Nat × AH)} (h : e t = v) (hs : nW e vs) : nW e ((t, v) :: vs) := fun p hp => by
 rcases List.mem_cons.1 hp with rfl | hp
 ·exact h
 ·exact hs p hp
def Es {M : AE} {vs : List (Nat × AH)} {e' e : bB} (hs : nW e' vs) (ha : jJ M e' e) : e' = mix M vs e' e := by
 funext t
 unfold mix
 split
 ·rename_i p hp
  have h1 := ju hp
  have h2 := List.find?_some hp
  have h3 := da h2
  rw [← h3]; exact hs p h1
 ·cases hx : M.any (Nat.beq t)
  ·simp only [cond_false]; exact ha t hx
  ·simp only [cond_true]
def Tp {p : Nat → Prop} (h : ∃ m, p m) : ∃ m, p m ∧ ∀ k, k < m → ¬ p k := by
 obtain ⟨m, hm⟩ := h
 induction m using Nat.strongRecOn with
 | _ m ih =>
  by_cases hx : ∃ k, k < m ∧ p k
  ·obtain ⟨k, hk, hp⟩ := hx
   exact ih k hk hp
  ·exact ⟨m, hm, fun k hk hp => hx ⟨k, hk, hp⟩⟩
def aJ4 {F : Fence} {n : Nat} {P : AL} {ι : Type} {c : Code} {R : Exit → Act → AI → Prop} (I : ι → Act → AI → Prop) (μ : ι → Nat) {a : Act} {w : AI} (i0 : ι) (h0 : I i0 a w)
  (round : ∀ i a w, I i a w → c.wpIn F n P (Exit.then (fun a' w' => ∃ j, I j a' w' ∧ μ j < μ i) R) a w) : (Code.loop c).wpIn F n P R a w := by
 classical
 let p : Act → AI → Nat → Prop := fun a w m => ∃ i, I i a w ∧ μ i = m
 let f : Act → AI → Nat := fun a w => if h : ∃ m, p a w m then Classical.choose (Tp h) else 0
 have hf : ∀ a w, (∃ m, p a w m) → p a w (f a w) ∧ ∀ k, k < f a w → ¬ p a w k := fun a w h => by
  have := Classical.choose_spec (Tp h)
  simp only [f, dif_pos h]
  exact this
 refine wpIn_loop (fun a w => ∃ i, I i a w) f ⟨i0, h0⟩ ?_
 intro a w hI
 obtain ⟨i1, hi1⟩ := hI
 obtain ⟨⟨i, hi, hm⟩, _⟩ := hf a w ⟨_, i1, hi1, rfl⟩
 refine wpIn_mono (round i a w hi) ?_
 intro ex a' w' h
 cases ex <;> simp only [Exit.then] at h ⊢
 case normal =>
  obtain ⟨j, hj, hlt⟩ := h
  refine ⟨⟨j, hj⟩, ?_⟩
  have h2 := (hf a' w' ⟨_, j, hj, rfl⟩).2
  rcases dt (f a' w') (f a w) with h3 | h3
  ·exact h3
  ·exact absurd ⟨j, hj, U⟩ (h2 (μ j) (by omega))
 all_goals exact h
def dV {σ : Type} {c : Code} (M : AE) (vs : σ → List (Nat × AH)) (H : σ → aF) (J : σ → Prop) (μ : σ → Nat) (s0 : σ)
  (h0 : J s0) (hv : nW e (vs s0)) (hh : ∀ w, St Γ.w0 Γ.ms L w → St Γ.w0 Γ.ms (H s0) w)
  (round : ∀ s x, J s → C Γ c ⟨fun e' L' => ∃ s', J s' ∧ μ s' < μ s ∧ nW e' (vs s') ∧ jJ M e' e ∧ (∀ w, St Γ.w0 Γ.ms L' w → St Γ.w0 Γ.ms (H s') w), k.R, k.X⟩ (mix M (vs s) x e) (H s)) :
  C Γ (.loop c) k e L := by
 intro a w ha hw
 refine aJ4 (ι := σ) (fun s a w => J s ∧ ∃ x, kX Γ.n Γ.D (mix M (vs s) x e) a ∧ St Γ.w0 Γ.ms (H s) w) μ s0
  ⟨h0, e, by rw [← Es hv (jJ.refl M e)]; exact ha, hh w hw⟩ ?_
 rintro s a w ⟨hJ, x, ha, hw⟩
 refine wpIn_mono (round s x hJ a w ha hw) ?_
 rintro ex a' w' ⟨e', L', h1, h2, h3⟩
 cases ex <;> simp only [fT.at, Exit.then] at h3 ⊢
 case normal =>
  obtain ⟨s', hJ', hlt, hs, hA, hH⟩ := h3
  exact ⟨s', ⟨hJ', e', by rw [← Es hs hA]; exact h1, hH w' h2⟩, hlt⟩
 case exit id => exact ⟨e', L', h1, h2, h3⟩
 case goto l => exact ⟨e', L', h1, h2, h3⟩
 case ret => exact ⟨e', L', h1, h2, h3⟩
def rR {σ : Type} {x y : Code} (M : AE) (vs : σ → List (Nat × AH)) (H : σ → aF) (J : σ → Prop)
  (h1 : C Γ x ⟨fun e' L' => ∃ s, J s ∧ nW e' (vs s) ∧ jJ M e' e ∧ (∀ w, St Γ.w0 Γ.ms L' w → St Γ.w0 Γ.ms (H s) w), k.R, k.X⟩ e L)
  (h2 : ∀ s x, J s → C Γ y k (mix M (vs s) x e) (H s)) : C Γ (.seq x y) k e L := by
 refine N0 (fun a w ha hw => wpIn_mono (h1 a w ha hw) ?_)
 rintro ex a' w' ⟨e', L', g1, g2, g3⟩
 cases ex <;> simp only [fT.at] at g3 ⊢
 case normal =>
  obtain ⟨s, hJ, hs, hA, hH⟩ := g3
  refine ⟨e', L', g1, g2, ?_⟩
  simp only [fT.at]
  intro a2 w2 ha2 hw2
  have := Es hs hA
  exact h2 s e' hJ a2 w2 (this ▸ ha2) (hH _ hw2)
 case exit id => exact ⟨e', L', g1, g2, g3⟩
 case goto l => exact ⟨e', L', g1, g2, g3⟩
 case ret => exact ⟨e', L', g1, g2, g3⟩
end rules
def eR {α : Type} (P : AL) : Sem α → Option α
 | .pure a => some a
 | .program k => eR P (k P)
 | _ => none
def C0 {α : Type} {P : AL} {s : Sem α} {a : α} (h : eR P s = some a) (w : AI) : s.run P w = .ok a w := by
 induction s with
 | pure b => simp only [eR] at h; cases h; rfl
 | program k ih => simp only [eR] at h; simp only [Sem.run]; exact ih P h
 | _ => simp [eR] at h
def bC : AH → Option AH
 | .bool b => some (.bool b)
 | .int k n => some (.int k n)
 | .float k n => some (.float k n)
 | .complex k a b => some (.complex k a b)
 | .string s => some (.string s)
 | .pointer none => some (.pointer none)
 | .pointer (some ⟨b, o, s⟩) => some (.pointer (some ⟨b, o, s⟩))
 | .slice a n c => some (.slice a n c)
 | .map r => some (.map r)
 | .chan r => some (.chan r)
 | .func f a b => some (.func f a b)
 | .nilFunc => some .nilFunc
 | .iface t v => some (.iface t v)
 | .nilIface => some .nilIface
 | .agg cs => some (.agg cs)
 | .tuple vs => some (.tuple vs)
def bT {v u : AH} (h : bC v = some u) : v = u := by
 cases v with
 | pointer a => cases a with
  | none => exact aj h
  | some a => cases a; exact aj h
 | _ => exact aj h
def dT (P : AL) (e : bB) (o : Oper) : Option AH :=
 match eR P (execOp (ev e) o) with
 | some (.value v) => bC v
 | some .skip => some undef
 | _ => none
def aCX {P : AL} {e : bB} {o : Oper} {v : AH} (h : dT P e o = some v) (w : AI) :
  (execOp (ev e) o).run P w = .ok (.value v) w ∨ ((execOp (ev e) o).run P w = .ok .skip w ∧ v = undef) := by
 unfold dT at h
 split at h
 ·rename_i u hu
  rw [← bT h]
  exact .inl (C0 hu w)
 ·rename_i hu
  cases h
  exact .inr ⟨C0 hu w, U⟩
 ·cases h
def mV (P : AL) (o : Oper) (e : bB) (w : AI) (K : AH → AI → Prop) : Prop :=
 match (execOp (ev e) o).run P w with
 | .ok (.value v) w' => K v w'
 | .ok .skip w' => K undef w'
 | .ok (.enter f args) w' => Calls P f args w' (fun ex w'' => ∃ v, ex = .returned v ∧ K v w'')
 | _ => False
def gX {P : AL} {o : Oper} {e : bB} {w w' : AI} {v : AH} {K : AH → AI → Prop} (h : (execOp (ev e) o).run P w = .ok (.value v) w') (k : K v w') : mV P o e w K := by
 simp only [mV, h]; exact k
def Zc {P : AL} {o : Oper} {e : bB} {w w' : AI} {K : AH → AI → Prop} (h : (execOp (ev e) o).run P w = .ok .skip w') (k : K undef w') : mV P o e w K := by
 simp only [mV, h]; exact k
def F3 {P : AL} {o : Oper} {e : bB} {w w' : AI} {f : FuncId} {args : Array AH} {K : AH → AI → Prop} (h : (execOp (ev e) o).run P w = .ok (.enter f args) w')
  (k : Calls P f args w' (fun ex w'' => ∃ v, ex = .returned v ∧ K v w'')) : mV P o e w K := by
 simp only [mV, h]; exact k
def aPh {P : AL} {o : Oper} {e : bB} {w : AI} {v : AH} {K : AH → AI → Prop} (h : dT P e o = some v) (k : K v w) : mV P o e w K := by
 rcases aCX h w with h1 | ⟨h1, h2⟩
 ·exact gX h1 k
 ·subst h2; exact Zc h1 k
def tX {P : AL} {o : Oper} {e : bB} {w : AI} {K K' : AH → AI → Prop} (h : mV P o e w K) (hk : ∀ v w', K v w' → K' v w') : mV P o e w K' := by
 unfold mV at *
 split at h
 ·exact hk _ _ h
 ·exact hk _ _ h
 ·exact h.mono fun ex w'' ⟨v, h1, h2⟩ => ⟨v, h1, hk _ _ h2⟩
 ·exact h.elim
def aLs {P : AL} {o : Oper} {e : bB} {w : AI} {K : AH → AI → Prop} (h : mV P o e w K) (c : Call) : o.op ≠ .defer c := by
 intro ho
 have h1 : execOp (ev e) o = (do pure (.defer (← resolve (ev e) c o.type))) := by simp only [execOp, ho]
 unfold mV at h
 rw [h1, ay] at h
 cases hr : (resolve (ev e) c o.type).run P w with
 | ok d w' => rw [hr] at h; exact h.elim
 | halt x w' => rw [hr] at h; exact h.elim
def Wb {r : AD} {n : Nat} {P : AL} {f : FuncId} {args : Array AH} {w : AI} {R : Ending → AI → Prop} (h : Calls P f args w R) : CallsIn (Fr r) n P f args w R :=
 (callsIn_wide (n := n)).2 h
def aKH {P : AL} {r : AD} {n : Nat} {D : List Deferred} {o : Oper} {e : bB} {a : Act} {w : AI} {K : AH → AI → Prop} {K' : Act → AI → Prop} {R : Exit → Act → AI → Prop}
  (ha : kX n D e a) (h : mV P o e w K) (hk : ∀ v w', K v w' → K' (a.put o.dst v) w') : o.wpIn (Fr r) 0 P a w K' R := by
 refine ⟨fun _ _ => trivial, ?_⟩
 rw [Oper.semAt_eq _ _ _ (fun c => aLs h c), ha.eval]
 unfold mV at h
 split at h
 ·rename_i v w' hr; rw [hr]; exact hk _ _ h
 ·rename_i w' hr; rw [hr]; exact hk _ _ h
 ·rename_i f args w' hr
  rw [hr]
  refine ⟨fun h => (by cases h), Wb (h.mono ?_)⟩
  rintro ex w'' ⟨v, rfl, hv⟩
  exact hk _ _ hv
 ·exact h.elim
def Oper.wp_in {P : AL} {r : AD} {o : Oper} {a : Act} {w : AI} {K : Act → AI → Prop} {R : Exit → Act → AI → Prop} (ho : ∀ c, o.op ≠ .defer c)
    (h : o.wp P a w K R) : o.wpIn (Fr r) 0 P a w K R := by
  refine ⟨fun _ _ => trivial, ?_⟩
  rw [Oper.semAt_eq _ _ _ ho]
  unfold Oper.wp at h
  generalize (execOp a.eval o).run P w = q at h ⊢
  cases q with
  | ok x w' =>
    cases x <;> simp only [Oper.upon] at h <;>
      first
        | exact h
        | exact ⟨fun h => (by cases h), Wb h⟩
        | exact h.elim
        | (refine ⟨fun h => (by cases h), fun c cs _ => ?_⟩
           obtain ⟨v, w2, h1, h2⟩ := h c cs
           exact ⟨v, w2, h1, stepsIn_wide.2 h2⟩)
  | halt x w' => cases x <;> simp only [Oper.upon] at h <;> first | exact h | exact h.elim
def Dq (o : Oper) : Bool := match o.op with
 | .defer _ => false
 | _ => true
def aF7 {o : Oper} (h : Dq o = true) (c : Call) : o.op ≠ .defer c := by
 intro ho; simp only [Dq, ho] at h; cases h
def aLv {P : AL} {r : AD} {ops : Array Oper} {i : Nat} {a : Act} {w : AI} {K : Act → AI → Prop} {R : Exit → Act → AI → Prop}
  (hd : ops.all Dq = true) (hL : ¬ LetsOut R) (h : wpOp P ops R i K a w) : wpOpIn (Fr r) 0 P ops R i K a w := by
 unfold wpOp at h
 unfold wpOpIn
 cases ho : ops[i]? with
 | none => rw [ho] at h; exact h
 | some o =>
  rw [ho] at h
  simp only at h ⊢
  have h1 : Dq o = true := Array.all_eq_true'.1 hd o (Array.mem_of_getElem? ho)
  split
  ·rename_i hw
   rw [ag hw] at h
   rcases h with h | h
   ·exact Oper.wp_in (aF7 h1) h
   ·exact absurd h.2 hL
  ·rename_i hw
   rw [ae hw] at h
   exact ⟨fun _ _ => trivial, h⟩
def aDJ {P : AL} {r : AD} {md : Region.Mode} {ops : Array Oper} {R : Exit → Act → AI → Prop} (hd : ops.all Dq = true) (hL : ¬ LetsOut R) :
  ∀ (fuel : Nat) (listed : Array Bool) (a : Act) (w : AI), wpAny P md ops R fuel listed a w → wpAnyIn (Fr r) 0 P md ops R fuel listed a w
 | 0, _, _, _, h => h
 | fuel + 1, _, _, _, h => ⟨h.1, fun i hi => wpOpIn_mono (fun a' w' h' => aDJ hd hL fuel _ a' w' h') (aLv hd hL (h.2 i hi))⟩
def Q.noOut {n : Nat} {D : List Deferred} {w0 : AI} {ms : AE} {k : fT} : ¬ LetsOut (Q n D w0 ms k) := by
 rintro ⟨_, _, _, _, _, _, h⟩
 exact h
def aKn {P : AL} {n : Nat} {D : List Deferred} {o : Oper} {e : bB} {a : Act} {w : AI} {K : AH → AI → Prop} {K' : Act → AI → Prop} {R : Exit → Act → AI → Prop}
  (ha : kX n D e a) (h : mV P o e w K) (hk : ∀ v w', K v w' → K' (a.put o.dst v) w') : o.wp P a w K' R := by
 unfold Oper.wp
 rw [ha.eval]
 unfold mV at h
 split at h
 ·rename_i v w' hr; rw [hr]; exact hk _ _ h
 ·rename_i w' hr; rw [hr]; exact hk _ _ h
 ·rename_i f args w' hr
  rw [hr]
  refine h.mono ?_
  rintro ex w'' ⟨v, rfl, hv⟩
  exact hk _ _ hv
 ·exact h.elim
def eZ (ops : List Oper) (e : bB) (o : Oper) : Bool :=
 match o.guard with
 | none => true
 | some (j, want) => match (ops[j]?).bind (·.dst) with
  | some d => match e d with
   | .bool b => b == want
   | _ => false
  | none => false
def Bn {n : Nat} {D : List Deferred} {ops : List Oper} {e : bB} {a : Act} {o : Oper} (ha : kX n D e a) : Region.wanted o (yielded ops.toArray a.tmps) = eZ ops e o := by
 unfold Region.wanted eZ yielded
 cases hg : o.guard with
 | none => rfl
 | some p =>
  obtain ⟨j, want⟩ := p
  simp only [dx]
  cases hd : (ops[j]?).bind (·.dst) with
  | none => simp
  | some d =>
   simp only [Option.bind_some]
   have hl : e d = a.tmps.getD d undef := by rw [ha.look]
   rw [hl]
   rw [gw]
   cases hx : a.tmps[d]? with
   | none => simp [undef]
   | some v =>
    simp only [Option.getD_some]
    cases v <;> simp
def L1 (Γ : dQ) (ops l : List Oper) (k : fT) (e : bB) (H : aF) : Prop :=
 ∀ a w, kX Γ.n Γ.D e a → St Γ.w0 Γ.ms H w → wpListIn (Fr Γ.r) 0 Γ.P ops.toArray (Q Γ.n Γ.D Γ.w0 Γ.ms k) l a w
section rules
variable {Γ : dQ} {k : fT} {e : bB} {H : aF} {ops rest : List Oper} {o : Oper}
def aPP {id : Nat} {l : List Oper} (h : L1 Γ l l k e H) : C Γ (.region id l.toArray false) k e H :=
 fun a w ha hw => wpIn_region_lit (h a w ha hw)
def aQF (h : k.N e H) : L1 Γ ops [] k e H := fun _ _ ha hw => wpListIn_nil ⟨e, H, ha, hw, h⟩
def Qf {K : AH → aF → Prop} (hg : eZ ops e o = true) (hd : eS Γ.n o.dst = true)
  (h : ∀ w, St Γ.w0 Γ.ms H w → mV Γ.P o e w (fun v w' => ∃ H', St Γ.w0 Γ.ms H' w' ∧ K v H'))
  (hk : ∀ v H', K v H' → L1 Γ ops rest k (e.put o.dst v) H') : L1 Γ ops (o :: rest) k e H := by
 intro a w ha hw
 unfold wpListIn
 rw [Bn ha, ag hg]
 exact (aKH ha (h w hw) fun v w' ⟨H', h1, h2⟩ => hk v H' h2 _ _ (ha.put hd v) h1)
def Vy {v : AH} (hl : dT Γ.P e o = some v) (hg : eZ ops e o = true) (hd : eS Γ.n o.dst = true)
  (h : L1 Γ ops rest k (e.put o.dst v) H) : L1 Γ ops (o :: rest) k e H :=
 Qf (K := fun u H' => u = v ∧ H' = H) hg hd (fun _ hw => aPh hl ⟨H, hw, rfl, rfl⟩) (by rintro _ _ ⟨rfl, rfl⟩; exact h)
def aLa {b : Bool} (hl : dT Γ.P e o = some (.bool b)) (hg : eZ ops e o = true) (hd : eS Γ.n o.dst = true)
  (ht : b = true → L1 Γ ops rest k (e.put o.dst (.bool true)) H) (hf : b = false → L1 Γ ops rest k (e.put o.dst (.bool false)) H) : L1 Γ ops (o :: rest) k e H := by
 cases b
 ·exact Vy hl hg hd (hf U)
 ·exact Vy hl hg hd (ht U)
def aHe (hg : eZ ops e o = false) (hd : eS Γ.n o.dst = true)
  (h : L1 Γ ops rest k (e.put o.dst undef) H) : L1 Γ ops (o :: rest) k e H := by
 intro a w ha hw
 unfold wpListIn
 rw [Bn ha, ae (by rw [hg]; simp)]
 exact ⟨fun _ _ => trivial, h _ _ (ha.put hd _) hw⟩
end rules
def lI (e : bB) : AF → Option (List AH)
 | [] => some []
 | x :: r => match bC (ev e x), lI e r with
  | some v, some vs => some (v :: vs)
  | _, _ => none
def Cd {e : bB} : ∀ {l : AF} {vs : AA}, lI e l = some vs → l.map (ev e) = vs
 | [], _, h => by cases h; rfl
 | x :: r, vs, h => by
  simp only [lI] at h
  split at h
  ·rename_i v us h1 h2
   cases h
   simp only [cu, bT h1, Cd h2]
  ·cases h
def gR (P : AL) (f : Nat) : Bool :=
 match P.funcs[f]? with
 | some fn => !(fn.name == "runtime.NumGoroutine") && !fn.body.isNone
 | none => false
def aLW {P : AL} {e : bB} {f : Nat} {l : AF} {ts : Array AJ} {d : AD} {t : AJ} {pos : String} {af : AG} {g : Option (Nat × Bool)}
  (hc : gR P f = true) (w : AI) :
  (execOp (ev e) ⟨d, .call ⟨.value (.func f), l.toArray, ts⟩, t, pos, af, g⟩).run P w = .ok (.enter f (l.map (ev e)).toArray) w := by
 unfold gR at hc
 split at hc
 ·rename_i fn hf
  simp only [cq, gb] at hc
  obtain ⟨h1, h2⟩ := hc
  have hs : (program : Sem AL) = .program .pure := rfl
  have h3 : ¬ fn.name = "runtime.NumGoroutine" := by simpa using h1
  have h4 : ¬ fn.body = none := by
   intro hx; rw [hx] at h2; cases h2
  simp [execOp, resolve, Deferred.ofValue, ev, invoke, callFunc, bind, Sem.bind, Sem.run, hf, h3, h4, pure, hs]
 ·cases hc
def aG (P : AL) (f : Nat) (args : AA) (w : AI) (ms : AE) (R : AH → aF → Prop) : Prop :=
 Calls P f args.toArray w (fun ex w' => ∃ v H, ex = .returned v ∧ St w ms H w' ∧ R v H)
def aG.mono {P : AL} {f : Nat} {args : AA} {w : AI} {ms : AE} {R R' : AH → aF → Prop} (h : aG P f args w ms R) (hr : ∀ v H, R v H → R' v H) : aG P f args w ms R' :=
 Calls.mono h fun _ _ ⟨v, H, h1, h2, h3⟩ => ⟨v, H, h1, h2, hr _ _ h3⟩
section rules
variable {Γ : dQ} {k : fT} {e : bB} {ops rest : List Oper}
 {d : AD} {t : AJ} {pos : String} {af : AG} {g : Option (Nat × Bool)} {f : Nat} {l : AF} {ts : Array AJ}
def Z3 {F G : aF} {vs : AA} {w : AI} (ms2 : AE) (hc : gR Γ.P f = true) (hv : lI e l = some vs) {R : AH → aF → Prop}
  (hw : St Γ.w0 Γ.ms (F ++ G) w) (hms : ∀ b ∈ ms2, ∃ o, (b, o) ∈ F) (hf : aG Γ.P f vs w ms2 R) {K : AH → AI → Prop}
  (hk : ∀ v H' w', R v H' → St w ms2 H' w' → St Γ.w0 Γ.ms (H' ++ G) w' → K v w') :
  mV Γ.P ⟨d, .call ⟨.value (.func f), l.toArray, ts⟩, t, pos, af, g⟩ e w K := by
 refine F3 (aLW hc w) ?_
 rw [Cd hv]
 refine Calls.mono hf ?_
 rintro ex w' ⟨v, H', rfl, h1, h2⟩
 exact ⟨v, U, hk v H' w' h2 h1 (hw.call hms h1)⟩
end rules
def Eu (args : AA) : bB := fun t => args.getD t undef
def vM (rs : List ResultVar) (e : bB) : Sem AH := do
 let vs ← rs.toArray.mapM fun
  | .tmp t => pure (e t)
  | .cell a t => do loadVar t (← asAddr (e a))
 pure (if h : vs.size = 1 then vs[0] else .tuple vs)
def kR (P : AL) (rs : List ResultVar) (e : bB) (w : AI) (v : AH) : Prop := (vM rs e).run P w = .ok v w
def Jp {P : AL} {t : Nat} {e : bB} {w : AI} {v : AH} (h : e t = v) : kR P [.tmp t] e w v := by
 simp [kR, vM, h, go_sem]
def nK {P : AL} {e : bB} {w : AI} : kR P [] e w (.tuple #[]) := by
 simp [kR, vM, go_sem]
def mQ {P : AL} {t u : Nat} {e : bB} {w : AI} {v1 v2 : AH} (h1 : e t = v1) (h2 : e u = v2) : kR P [.tmp t, .tmp u] e w (.tuple #[v1, v2]) := by
 simp [kR, vM, h1, h2, go_sem]
def aAL {P : AL} {t u s : Nat} {e : bB} {w : AI} {v1 v2 v3 : AH} (h1 : e t = v1) (h2 : e u = v2) (h3 : e s = v3) : kR P [.tmp t, .tmp u, .tmp s] e w (.tuple #[v1, v2, v3]) := by
 simp [kR, vM, h1, h2, h3, go_sem]
def rC (Γ : dQ) (rs : List ResultVar) (R : AH → aF → Prop) (e : bB) (H : aF) : Prop :=
 ∀ w, St Γ.w0 Γ.ms H w → ∃ v H', kR Γ.P rs e w v ∧ St Γ.w0 Γ.ms H' w ∧ R v H'
def lC {Γ : dQ} {rs : List ResultVar} {R : AH → aF → Prop} {e : bB} {H H' : aF} {v : AH} (hr : ∀ w, St Γ.w0 Γ.ms H w → kR Γ.P rs e w v)
  (hh : ∀ w, St Γ.w0 Γ.ms H w → St Γ.w0 Γ.ms H' w) (h : R v H') : rC Γ rs R e H := fun w hw => ⟨v, H', hr w hw, hh w hw, h⟩
def Pb (Γ : dQ) (rs : List ResultVar) (R : AH → aF → Prop) : fT := ⟨rC Γ rs R, rC Γ rs R, []⟩
def J8 {fn : Func} {n : Nat} {D : List Deferred} {e : bB} {a : Act} (ha : kX n D e a) : results fn a.tmps = vM fn.results.toList e := by
 unfold results vM
 simp only [Array.toArray_toList]
 have : ∀ t, a.tmps.getD t undef = e t := fun t => by rw [ha.look]
 simp only [this]
 rfl
def P9 {n : Nat} {args : AA} (hn : args.length ≤ n) : kX n [] (Eu args) { tmps := args.toArray ++ Array.replicate (n - args.toArray.size) undef, defers := [] } := by
 refine ⟨U, by simp; omega, ?_⟩
 funext t
 simp only [Eu, gw, dd]
 by_cases h : t < args.length
 ·rw [Array.getElem?_append_left (by simpa using h)]
  simp
 ·rw [Array.getElem?_append_right (by simpa using h), jw, ea (by omega)]
  split <;> rfl
def yI {P : AL} {f : Nat} {fn : Func} {c : Code} {args : AA} {w : AI} {ms : AE} {R : AH → aF → Prop} {n : Nat} {H : aF}
  (hf : P.funcs[f]? = some fn) (hb : fn.body = some c) (hn : fn.ntmps = n) (hl : Nat.ble args.length n = true) (hH : St w ms H w)
  (h : C ⟨P, n, w, ms, none, []⟩ c (Pb ⟨P, n, w, ms, none, []⟩ fn.results.toList R) (Eu args) H) : aG P f args w ms R := by
 subst hn
 have hl' : args.length ≤ fn.ntmps := ai hl
 refine (callsIn_wide (n := 0)).1 (callsIn_of_wp hf hb trivial (wpIn_mono (h _ w (P9 hl') hH) ?_))
 rintro ex a' w' ⟨e', L', h1, h2, h3⟩
 have fin : ∀ v H', kR P fn.results.toList e' w' v → St w ms H' w' → R v H' → a'.defers = [] ∧ ∃ v, (results fn a'.tmps).run P w' = .ok v w' ∧ ∃ v' H, Ending.returned v = .returned v' ∧ St w ms H w' ∧ R v' H :=
  fun v H' g1 g2 g3 => ⟨h1.defers, v, by rw [J8 h1]; exact g1, v, H', rfl, g2, g3⟩
 cases ex <;> simp only [fT.at, Pb, rC, oX] at h3
 case normal => obtain ⟨v, H', g1, g2, g3⟩ := h3 w' h2; exact fin v H' g1 g2 g3
 case ret => obtain ⟨v, H', g1, g2, g3⟩ := h3 w' h2; exact fin v H' g1 g2 g3
section
variable {P : AL} {ops : Array Oper} {R : Exit → Act → AI → Prop} {md : Region.Mode} {S : AI → Prop} {need : Nat → Bool}
def Dr (P : AL) (md : Region.Mode) (ops : Array Oper) (R : Exit → Act → AI → Prop) (S : AI → Prop) (need : Nat → Bool) : Nat → Array Bool → Act → AI → Prop
 | 0, listed, a, w => Region.ready md ops listed = [] ∧ R .normal a w
 | fuel + 1, listed, a, w =>
  (Region.ready md ops listed = [] → R .normal a w) ∧
  ∀ i ∈ Region.ready md ops listed, wpOp P ops R i (fun a' w' => (need i = true → S w → S w') ∧ Dr P md ops R S need fuel (listed.setIfInBounds i true) a' w') a w
def aDZ : ∀ (fuel : Nat) (listed : Array Bool) (a : Act) (w : AI), Dr P md ops R S need fuel listed a w → wpAny P md ops R fuel listed a w
 | 0, _, _, _, h => h
 | fuel + 1, _, _, _, h => ⟨h.1, fun i hi => wpOp_mono (fun a' w' h' => aDZ fuel _ a' w' h'.2) (h.2 i hi)⟩
def yJ (md : Region.Mode) (ops : Array Oper) (listed : Array Bool) : Prop :=
 ∀ j oj, ops[j]? = some oj → listed.getD j false = true → ∀ e ∈ oj.after, Region.binds md e = true → listed.getD e.on false = true
def yJ.add {listed : Array Bool} (h : yJ md ops listed) {i : Nat} (hi : i ∈ Region.ready md ops listed) : yJ md ops (listed.setIfInBounds i true) := by
 intro j oj hj hl e he hb
 by_cases hji : j = i
 ·subst hji
  obtain ⟨_, oj', hoj', hall⟩ := mem_ready.1 hi
  rw [hj] at hoj'
  cases hoj'
  exact getD_set_true (hall e he hb)
 ·rw [getD_set_ne false (Ne.symm hji)] at hl
  exact getD_set_true (h j oj hj hl e he hb)
def yJ.start (n : Nat) : yJ md ops (Array.replicate n false) := by
 intro j oj _ hl
 exfalso
 rw [gw, jw] at hl
 split at hl <;> simp at hl
def yK (md : Region.Mode) (ops : Array Oper) (i : Nat) : Nat → Nat → Bool
 | 0, _ => false
 | fuel + 1, j => match ops[j]? with
  | some oj => oj.after.any fun e => Region.binds md e && (e.on == i || yK md ops i fuel e.on)
  | none => false
def aBk {listed : Array Bool} {i : Nat} (hc : yJ md ops listed) : ∀ (fuel j : Nat), yK md ops i fuel j = true → (∀ oj, ops[j]? = some oj → ∀ e ∈ oj.after, Region.binds md e = true → listed.getD e.on false = true) → listed.getD i false = true
 | 0, _, h, _ => by simp [yK] at h
 | fuel + 1, j, h, hd => by
  simp only [yK] at h
  split at h
  ·rename_i oj hoj
   obtain ⟨e, he, hb⟩ := Array.any_eq_true'.1 h
   simp only [cq, j8, ci] at hb
   have h1 := hd oj hoj e he hb.1
   rcases hb.2 with h2 | h2
   ·rw [← h2]; exact h1
   ·exact aBk hc fuel e.on h2 (fun o' ho' => hc e.on o' ho' h1)
  ·cases h
def aME (ld : Bool) {i : Nat} {oi : Oper} {v : AH} (hi : ops[i]? = some oi) (hsel : ∀ (j : Nat) (o : Oper) cs b, ops[j]? = some o → o.op ≠ .select cs b)
  (hR : ∀ c a w, R (.panic c) (a.put oi.dst v) w → R (.panic c) a w) :
  ∀ (fuel : Nat) (listed : Array Bool) (a : Act) (w : AI),
   (∀ j oj, ops[j]? = some oj → j ≠ i → listed.getD j true = false → (∀ e ∈ oj.after, Region.binds md e = true → e.on ≠ i) → oi.apart ops oj = true) →
   (ld = true → ∀ j oj, ops[j]? = some oj → j ≠ i → listed.getD j true = false → yK md ops i ops.size j = false → need j = true) → yJ md ops listed →
   i ∈ Region.ready md ops listed → YieldsIf P ops (fun w => ld = true → S w) oi v a → (ld = true → S w) →
   Dr P md ops R S need fuel (listed.setIfInBounds i true) (a.put oi.dst v) w → Dr P md ops R S need (fuel + 1) listed a w := by
 intro fuel
 induction fuel with
 | zero =>
  intro listed a w _ _ _ hr hy hS H
  refine ⟨fun h => (by rw [h] at hr; cases hr), fun j hj => ?_⟩
  by_cases hji : j = i
  ·subst hji; exact hy.wpOp hi hS ⟨fun _ h => h, H⟩
  ·have := ready_mono hj hji
   rw [H.1] at this
   cases this
 | succ fuel ih =>
  intro listed a w hfree hkeep hcl hr hy hS H
  refine ⟨fun h => (by rw [h] at hr; cases hr), fun j hj => ?_⟩
  by_cases hji : j = i
  ·subst hji; exact hy.wpOp hi hS ⟨fun _ h => h, H⟩
  ·have h1 := H.2 j (ready_mono hj hji)
   obtain ⟨hjun, oj, hoj, hall⟩ := mem_ready.1 hj
   have hnot : ∀ e ∈ oj.after, Region.binds md e = true → e.on ≠ i := fun e he hb heq => by
    have h1 := hall e he hb
    have h0 := (mem_ready.1 hr).1
    rw [heq] at h1
    rcases dt i listed.size with h' | h'
    ·simp [h'] at h0 h1; rw [h0] at h1; cases h1
    ·simp [fp h'] at h1
   have hap := hfree j oj hoj hji hjun hnot
   have hneed : ld = true → need j = true := fun hld => by
    refine hkeep hld j oj hoj hji hjun ?_
    cases hx : yK md ops i ops.size j
    ·rfl
    ·exfalso
     have h1 := aBk hcl ops.size j hx (fun o' ho' => by rw [hoj] at ho'; cases ho'; exact hall)
     have h0 := (mem_ready.1 hr).1
     rcases dt i listed.size with h' | h'
     ·simp [h'] at h0 h1; rw [h0] at h1; cases h1
     ·simp [fp h'] at h1
   have h2 := wpOp_putIf hoj hap (fun cs b => hsel i oi cs b hi) (fun cs b => hsel j oj cs b hoj) hR hy h1
   have hfree' : ∀ k ok, ops[k]? = some ok → k ≠ i → (listed.setIfInBounds j true).getD k true = false →
     (∀ e ∈ ok.after, Region.binds md e = true → e.on ≠ i) → oi.apart ops ok = true := fun k ok hk hki hun hno => by
    refine hfree k ok hk hki ?_ hno
    by_cases hjk : j = k
    ·subst hjk; exact hjun
    ·rw [getD_set_ne true hjk] at hun; exact hun
   have hkeep' : ld = true → ∀ k ok, ops[k]? = some ok → k ≠ i → (listed.setIfInBounds j true).getD k true = false → yK md ops i ops.size k = false → need k = true := fun hld k ok hk hki hun hno => by
    refine hkeep hld k ok hk hki ?_ hno
    by_cases hjk : j = k
    ·subst hjk; exact hjun
    ·rw [getD_set_ne true hjk] at hun; exact hun
   refine wpOp_mono (fun a' w' h3 => ⟨h3.2.1, ih (listed.setIfInBounds j true) a' w' hfree' hkeep' (hcl.add hj) (ready_mono hr (Ne.symm hji)) h3.1 (fun hld => h3.2.1 (hneed hld) (hS hld)) ?_⟩) h2
   rw [Array.setIfInBounds_comm _ _ hji]
   exact h3.2.2
def looks (o : Oper) : Bool := match o.op with
 | .load _ _ => true
 | _ => false
def R6 (ops : Array Oper) (i : Nat) : Bool := match ops[i]? with
 | some o => looks o
 | none => true
inductive lH where
 | done
 | step (l : Bool) (i : Nat) (r : lH)
 | fork (i : Nat) (r o : lH)
 | stop
def lH.heads : lH → AE
 | .fork i _ o => i :: o.heads
 | _ => []
def xQ (P : AL) (ops : Array Oper) (R : Exit → Act → AI → Prop) (S : AI → Prop) (need : Nat → Bool) : lH → Act → AI → Prop
 | .done, a, w => R .normal a w
 | .step true i r, a, w => ∃ o v, ops[i]? = some o ∧ YieldsIf P ops (fun w => looks o = true → S w) o v a ∧ xQ P ops R S need r (a.put o.dst v) w
 | .step false i r, a, w => wpOp P ops R i (fun a' w' => (need i = true → S w → S w') ∧ xQ P ops R S need r a' w') a w
 | .fork i r o, a, w => wpOp P ops R i (fun a' w' => (need i = true → S w → S w') ∧ xQ P ops R S need r a' w') a w ∧ xQ P ops R S need o a w
 | .stop, _, _ => True
def B8 (md : Region.Mode) (ops : Array Oper) (need : Nat → Bool) (listed : Array Bool) (i : Nat) : Bool :=
 (List.range ops.size).all fun j => j == i || listed.getD j true || yK md ops i ops.size j || need j
def oE (md : Region.Mode) (ops : Array Oper) (need : Nat → Bool) : lH → Nat → Bool → Array Bool → Bool → Bool
 | .done, _, top, listed, _ => top && (Region.ready md ops listed).isEmpty
 | .step true i r, fuel + 1, top, listed, s => top && (!(R6 ops i) || (s && B8 md ops need listed i)) && (Region.ready md ops listed).contains i && Region.free md ops listed i && oE md ops need r fuel true (listed.setIfInBounds i true) s
 | .step false i r, fuel + 1, top, listed, s => top && (Region.ready md ops listed == [i]) && oE md ops need r fuel true (listed.setIfInBounds i true) (s && need i)
 | .fork i r o, fuel + 1, top, listed, s => (!top || Region.ready md ops listed == i :: o.heads) && (Region.ready md ops listed).contains i && oE md ops need r fuel true (listed.setIfInBounds i true) (s && need i) && oE md ops need o (fuel + 1) false listed s
 | .stop, _, top, _, _ => !top
 | .step _ _ _, 0, _, _, _ => false
 | .fork _ _ _, 0, _, _, _ => false
def aKP {listed : Array Bool} {i : Nat} (h : B8 md ops need listed i = true) (j : Nat) (oj : Oper) (hj : ops[j]? = some oj) (hne : j ≠ i) (hun : listed.getD j true = false)
  (hno : yK md ops i ops.size j = false) : need j = true := by
 have hlt : j < ops.size := by
  rcases dt j ops.size with h1 | h1
  ·exact h1
  ·rw [fp h1] at hj; cases hj
 have := List.all_eq_true.1 h j (List.mem_range.2 hlt)
 simpa only [hun, hno, j8, ci, hne, Bool.or_false, ep, false_or] using this
def aPM (hs : Region.noSelect ops = true) (hR : ∀ c a w, ¬ R (.panic c) a w) : ∀ (pl : lH) (fuel : Nat) (listed : Array Bool) (s : Bool) (a : Act) (w : AI), yJ md ops listed → (s = true → S w) → xQ P ops R S need pl a w →
  (oE md ops need pl fuel true listed s = true → Dr P md ops R S need fuel listed a w) ∧
  (oE md ops need pl (fuel + 1) false listed s = true → ∀ j ∈ pl.heads, wpOp P ops R j (fun a' w' => (need j = true → S w → S w') ∧ Dr P md ops R S need fuel (listed.setIfInBounds j true) a' w') a w) := by
 intro pl
 induction pl with
 | done =>
  intro fuel listed s a w _ _ h
  refine ⟨fun hB => ?_, fun _ j hj => by cases hj⟩
  simp only [oE, ic, List.isEmpty_iff] at hB
  cases fuel with
  | zero => exact ⟨hB, h⟩
  | succ fuel => exact ⟨fun _ => h, fun j hj => by rw [hB] at hj; cases hj⟩
 | stop =>
  intro fuel listed s a w _ _ _
  exact ⟨fun hB => by simp [oE] at hB, fun _ j hj => by cases hj⟩
 | step l i r ih =>
  intro fuel listed s a w hcl hS h
  refine ⟨fun hB => ?_, fun _ j hj => by cases hj⟩
  cases fuel with
  | zero => simp [oE] at hB
  | succ fuel =>
   cases l with
   | true =>
    simp only [oE, ic, cq] at hB
    obtain ⟨⟨⟨h1, h2⟩, h3⟩, h5⟩ := hB
    obtain ⟨o, v, ho, hy, hr⟩ := h
    have h4 : looks o = true → s = true ∧ B8 md ops need listed i = true := fun hx => by
     simp only [R6, ho, hx, Bool.not_true, Bool.false_or, cq] at h1
     exact h1
    refine aME (looks o) ho (Region.noSelect_spec hs) (fun c a w hc => absurd hc (hR c _ w)) fuel listed a w (fun j oj hj hne hun hno => Region.free_spec ho h3 j oj hj hne hun hno)
     (fun hx j oj hj hne hun hno => aKP (h4 hx).2 j oj hj hne hun hno) hcl (by simpa using h2) hy (fun hx => hS (h4 hx).1) ?_
    exact (ih fuel _ s _ w (hcl.add (by simpa using h2)) hS hr).1 h5
   | false =>
    simp only [oE, ic, cq, ci] at hB
    obtain ⟨h1, h2⟩ := hB
    refine ⟨fun h0 => (by rw [h1] at h0; cases h0), fun j hj => ?_⟩
    rw [h1] at hj
    have : j = i := by simpa using hj
    subst this
    refine wpOp_mono (fun a' w' h3 => ⟨h3.1, (ih fuel _ (s && need j) a' w' (hcl.add (by rw [h1]; simp)) ?_ h3.2).1 h2⟩) h
    intro hx
    simp only [cq] at hx
    exact h3.1 hx.2 (hS hx.1)
 | fork i r o ih1 ih2 =>
  intro fuel listed s a w hcl hS h
  have key : ∀ fuel top, oE md ops need (.fork i r o) (fuel + 1) top listed s = true → ∀ j ∈ (lH.fork i r o).heads, wpOp P ops R j (fun a' w' => (need j = true → S w → S w') ∧ Dr P md ops R S need fuel (listed.setIfInBounds j true) a' w') a w := by
   intro fuel top hB j hj
   simp only [oE, cq] at hB
   obtain ⟨⟨⟨_, h2⟩, h3⟩, h4⟩ := hB
   simp only [lH.heads, eg] at hj
   rcases hj with rfl | hj
   ·refine wpOp_mono (fun a' w' h5 => ⟨h5.1, (ih1 fuel _ (s && need j) a' w' (hcl.add (by simpa using h2)) ?_ h5.2).1 h3⟩) h.1
    intro hx
    simp only [cq] at hx
    exact h5.1 hx.2 (hS hx.1)
   ·exact (ih2 fuel listed s a w hcl hS h.2).2 h4 j hj
  refine ⟨fun hB => ?_, fun hB => key fuel false hB⟩
  cases fuel with
  | zero => simp [oE] at hB
  | succ fuel =>
   have hk := key fuel true hB
   simp only [oE, cq, Bool.not_true, Bool.false_or, ci] at hB
   have h1 := hB.1.1.1
   refine ⟨fun h0 => (by rw [h1] at h0; cases h0), fun j hj => hk j ?_⟩
   rw [h1] at hj
   exact hj
def aL4 {id : Nat} {a : Act} {w : AI} (pl : lH) (hm : P.follows .mixedOrders = true) (hs : Region.noSelect ops = true)
  (hB : oE .any ops need pl ops.size true (Array.replicate ops.size false) true = true) (hR : ∀ c a w, ¬ R (.panic c) a w) (hS : S { w with drawn := w.drawn + 1 })
  (hd : ops.all Dq = true) (hL : ¬ LetsOut R) {r : AD} (h : xQ P ops R S need pl a { w with drawn := w.drawn + 1 }) : (Code.region id ops true).wpIn (Fr r) 0 P R a w :=
 wpIn_region_any hm (aDJ hd hL _ _ _ _ (aDZ _ _ _ _ ((aPM hs hR pl _ _ true a _ (yJ.start _) (fun _ => hS) h).1 hB)))
end
def C7 (l : Array Oper) : Bool := Region.noSelect l && l.all Dq
def L2 (Γ : dQ) (ops : List Oper) (S : AI → Prop) (need : AE) (pl : lH) (k : fT) (e : bB) (H : aF) : Prop :=
 ∀ a w, kX Γ.n Γ.D e a → St Γ.w0 Γ.ms H w → xQ Γ.P ops.toArray (Q Γ.n Γ.D Γ.w0 Γ.ms k) S (fun i => need.any (Nat.beq i)) pl a w
section rules
variable {Γ : dQ} {k : fT} {e : bB} {H : aF} {ops : List Oper} {S : AI → Prop} {need : AE} {pl : lH} {i : Nat}
 {d : AD} {op : Op} {t : AJ} {pos : String} {af : AG} {g : Option (Nat × Bool)}
def Q.noPanic {n : Nat} {D : List Deferred} {w0 : AI} {ms : AE} {k : fT} (c : List PanicEntry) (a : Act) (w : AI) : ¬ Q n D w0 ms k (.panic c) a w :=
 fun ⟨_, _, _, _, h⟩ => h
def kK (Γ : dQ) (F : aF) (w : AI) : Prop := ∃ G, St Γ.w0 Γ.ms G w ∧ ∀ x ∈ F, x ∈ G
def mZ {id : Nat} {l : List Oper} (F : aF) (need : AE) (pl : lH) (hm : Γ.P.follows .mixedOrders = true) (hs : C7 l.toArray = true)
  (hB : oE .any l.toArray (fun i => need.any (Nat.beq i)) pl l.toArray.size true (Array.replicate l.toArray.size false) true = true)
  (hF : ∀ x ∈ F, x ∈ H) (h : L2 Γ l (kK Γ F) need pl k e H) : C Γ (.region id l.toArray true) k e H :=
 fun a _ ha hw => by
  simp only [C7, cq] at hs
  exact aL4 pl hm hs.1 hB (fun c a w => Q.noPanic c a w) ⟨H, hw.drew, hF⟩ hs.2 Q.noOut (h a _ ha hw.drew)
def oD {r o : lH} (h1 : L2 Γ ops S need (.step false i r) k e H) (h2 : L2 Γ ops S need o k e H) : L2 Γ ops S need (.fork i r o) k e H :=
 fun a w ha hw => ⟨h1 a w ha hw, h2 a w ha hw⟩
def yE : L2 Γ ops S need .stop k e H := fun _ _ _ _ => trivial
def aJr (h : k.N e H) : L2 Γ ops S need .done k e H := fun _ _ ha hw => ⟨e, H, ha, hw, h⟩
def Jq {v : AH} (ho : ops[i]? = some ⟨d, op, t, pos, af, g⟩) (hg : eZ ops e ⟨d, op, t, pos, af, g⟩ = true) (hd : eS Γ.n d = true)
  (hl : ∀ w, (looks ⟨d, op, t, pos, af, g⟩ = true → S w) → (execOp (ev e) ⟨d, op, t, pos, af, g⟩).run Γ.P w = .ok (.value v) w)
  (h : L2 Γ ops S need pl k (e.put d v) H) : L2 Γ ops S need (.step true i pl) k e H := by
 intro a w ha hw
 refine ⟨_, v, by rw [dx]; exact ho, .inl ⟨by rw [Bn ha]; exact hg, fun w hS => ?_⟩, h _ _ (ha.put hd v) hw⟩
 rw [ha.eval]; exact hl w hS
def Cr : AH → Bool
 | .tuple _ => false
 | _ => true
def aKq {P : AL} {e : bB} {o : Oper} {v : AH} (h : dT P e o = some v) (hv : Cr v = true) (w : AI) :
  (execOp (ev e) o).run P w = .ok (.value v) w := by
 rcases aCX h w with h1 | ⟨h1, h2⟩
 ·exact h1
 ·subst h2; cases hv
def Ds {v : AH} (ho : ops[i]? = some ⟨d, op, t, pos, af, g⟩) (hl : dT Γ.P e ⟨d, op, t, pos, af, g⟩ = some v) (hv : Cr v = true)
  (hg : eZ ops e ⟨d, op, t, pos, af, g⟩ = true) (hd : eS Γ.n d = true)
  (h : L2 Γ ops S need pl k (e.put d v) H) : L2 Γ ops S need (.step true i pl) k e H :=
 Jq ho hg hd (fun w _ => aKq hl hv w) h
def aM9 {b : Bool} (ho : ops[i]? = some ⟨d, op, t, pos, af, g⟩) (hl : dT Γ.P e ⟨d, op, t, pos, af, g⟩ = some (.bool b))
  (hg : eZ ops e ⟨d, op, t, pos, af, g⟩ = true) (hd : eS Γ.n d = true)
  (ht : b = true → L2 Γ ops S need pl k (e.put d (.bool true)) H) (hf : b = false → L2 Γ ops S need pl k (e.put d (.bool false)) H) : L2 Γ ops S need (.step true i pl) k e H := by
 cases b
 ·exact Ds ho hl U hg hd (hf U)
 ·exact Ds ho hl U hg hd (ht U)
def aAx (ho : ops[i]? = some ⟨d, op, t, pos, af, g⟩) (hg : eZ ops e ⟨d, op, t, pos, af, g⟩ = false) (hd : eS Γ.n d = true)
  (h : L2 Γ ops S need pl k (e.put d undef) H) : L2 Γ ops S need (.step true i pl) k e H := by
 intro a w ha hw
 exact ⟨_, undef, by rw [dx]; exact ho, .inr ⟨by rw [Bn ha]; exact hg, U⟩, h _ _ (ha.put hd _) hw⟩
def aMM {o : Oper} {K : AH → aF → Prop} (ho : ops[i]? = some o) (hg : eZ ops e o = true) (hd : eS Γ.n o.dst = true)
  (h : ∀ w, St Γ.w0 Γ.ms H w → mV Γ.P o e w (fun v w' => ∃ H', St Γ.w0 Γ.ms H' w' ∧ K v H'))
  (hn : need.any (Nat.beq i) = true → ∀ v H' w', K v H' → St Γ.w0 Γ.ms H' w' → S w')
  (hk : ∀ v H', K v H' → L2 Γ ops S need pl k (e.put o.dst v) H') : L2 Γ ops S need (.step false i pl) k e H := by
 intro a w ha hw
 unfold xQ wpOp
 rw [dx, ho]
 simp only
 rw [Bn ha, ag hg]
 refine .inl (aKn ha (h w hw) ?_)
 rintro v w' ⟨H', h1, h2⟩
 exact ⟨fun hx _ => hn hx v H' w' h2 h1, hk v H' h2 _ _ (ha.put hd v) h1⟩
def N1 {o : Oper} (ho : ops[i]? = some o) (hg : eZ ops e o = false) (hd : eS Γ.n o.dst = true)
  (h : L2 Γ ops S need pl k (e.put o.dst undef) H) : L2 Γ ops S need (.step false i pl) k e H := by
 intro a w ha hw
 unfold xQ wpOp
 rw [dx, ho]
 simp only
 rw [Bn ha, ae (by rw [hg]; simp)]
 exact ⟨fun _ hS => hS, h _ _ (ha.put hd _) hw⟩
end rules
abbrev J (l : AA) (t : AJ) : Obj := .cells l.toArray t (0, 0)
def Ay : AH → Option (List AH)
 | .agg ⟨l⟩ => some l
 | .bool b => some [.bool b]
 | .int k n => some [.int k n]
 | .string s => some [.string s]
 | .pointer a => some [.pointer a]
 | .slice a n c => some [.slice a n c]
 | .map r => some [.map r]
 | .func f a b => some [.func f a b]
 | .nilFunc => some [.nilFunc]
 | .iface t v => some [.iface t v]
 | .nilIface => some [.nilIface]
 | _ => none
def Ft {v : AH} {l : AA} (h : Ay v = some l) : v.cells = l.toArray := by
 cases v <;> simp [Ay] at h <;> subst h <;> simp [Value.cells]
def fL (l : AA) : Bool := l.all (·.oneCell')
def wW (P : AL) (t : AJ) : Bool :=
 match P.underlying t with
 | some (.struct _) => false
 | some (.array _ _) => false
 | some _ => true
 | none => false
def rX (P : AL) (t : AJ) : Bool :=
 match P.underlying t with
 | some (.struct _) => true
 | some (.array _ _) => true
 | _ => false
def kU (P : AL) (t : AJ) : AD := (P.info? t).map (·.size)
def aGF {P : AL} {t : AJ} (h : wW P t = true) (w : AI) : (isAgg t).run P w = .ok false w := by
 unfold wW at h
 unfold isAgg
 rw [ay]
 split at h
 ·cases h
 ·cases h
 ·rename_i d hd1 hd2 hd
  rw [run_underlying hd w]
  simp only [au]
  cases d <;> first | rfl | (exfalso; exact hd1 _ rfl) | (exfalso; exact hd2 _ _ rfl)
 ·cases h
def Fx {P : AL} {t : AJ} (h : rX P t = true) (w : AI) : (isAgg t).run P w = .ok true w := by
 unfold rX at h
 unfold isAgg
 rw [ay]
 split at h
 ·rename_i hd; rw [run_underlying hd w]; rfl
 ·rename_i hd; rw [run_underlying hd w]; rfl
 ·cases h
def vI {P : AL} {t : AJ} {n : Nat} (h : kU P t = some n) (w : AI) : (sizeOf t).run P w = .ok n w := by
 unfold kU at h
 cases hq : P.info? t with
 | none => simp [hq] at h
 | some i =>
  have : i.size = n := by simpa [hq] using h
  simp [sizeOf, typeInfo, hq, this]
def uO {w : AI} {b off : Nat} {cs : Array AH} {t : AJ} {fr : Nat × Nat} (h : w.heap[b]? = some (.cells cs t fr)) : w.cell? ⟨b, off, none⟩ = cs[off]? := by
 simp [World.cell?, h]
def aK (w : AI) (b off : Nat) (l : AA) : Prop := ∀ j v, l[j]? = some v → w.cell? ⟨b, off + j, none⟩ = some v
def aK.of_blk {w : AI} {b off : Nat} {cs : Array AH} {t : AJ} {fr : Nat × Nat} {l : AA} (h : w.heap[b]? = some (.cells cs t fr)) (hl : ∀ j v, l[j]? = some v → cs[off + j]? = some v) : aK w b off l :=
 fun j v hv => by rw [uO h]; exact hl j v hv
def aK.all {w : AI} {b : Nat} {l : AA} {t : AJ} {fr : Nat × Nat} (h : w.heap[b]? = some (.cells l.toArray t fr)) : aK w b 0 l :=
 aK.of_blk h fun j v hv => by simpa using hv
def aK.nil (w : AI) (b off : Nat) : aK w b off [] := fun _ _ h => by simp at h
def aK.add {w : AI} {b off : Nat} {l : AA} (h : aK w b off l) (j : Nat) (v : AH) (hv : l[j]? = some v) : w.cell? ((⟨b, off, none⟩ : Addr).add j) = some v := by
 have hadd : (⟨b, off, none⟩ : Addr).add j = ⟨b, off + j, none⟩ := by unfold Addr.add; split <;> simp_all
 rw [hadd]; exact h j v hv
section
variable {Γ : dQ} {e : bB} {H : aF} {d : AD} {ty : AJ} {pos : String} {af : AG} {g : Option (Nat × Bool)}
def dZ (Γ : dQ) (o : Oper) (e : bB) (H : aF) (K : AH → aF → Prop) : Prop :=
 ∀ w, St Γ.w0 Γ.ms H w → mV Γ.P o e w (fun v w' => ∃ H', St Γ.w0 Γ.ms H' w' ∧ K v H')
def St.own_blk {w0 w : AI} {ms : AE} {H : aF} (h : St w0 ms H w) {b : Nat} {o : Obj} (hm : (b, o) ∈ H) : w.heap[b]? = some o := h.holds _ hm
def eM {t : AJ} {x : AK} {v : AH} {l : AA} (hx : bC (ev e x) = some v) (hl : Ay v = some l) :
  dZ Γ ⟨d, .box t x, ty, pos, af, g⟩ e H (fun u H' => ∃ b, u = .pointer (some ⟨b, 0, none⟩) ∧ H' = (b, J l t) :: H) := by
 intro w hw
 refine gX (v := .pointer (some ⟨w.heap.size, 0, none⟩)) (w' := w.alloc (J l t)) ?_ ⟨_, hw.alloc _, _, U, U⟩
 simp [execOp, Instr.box, newVar, newRow, newObj, bT hx, Ft hl]
 rfl
def tJ (P : AL) (t : AJ) : Option (List AH) :=
 match P.info? t with
 | some i => match i.zero with
  | some z => Ay z
  | none => none
 | none => none
def Pm {P : AL} {t : AJ} {l : AA} (h : tJ P t = some l) (w : AI) : ∃ z, (zeroValue t).run P w = .ok z w ∧ z.cells = l.toArray := by
 unfold tJ at h
 split at h
 ·rename_i i hi
  split at h
  ·rename_i z hz
   exact ⟨z, by simp [zeroValue, typeInfo, hi, hz], Ft h⟩
  ·cases h
 ·cases h
def gG {t : AJ} {l : AA} (hl : tJ Γ.P t = some l) :
  dZ Γ ⟨d, .alloc t, ty, pos, af, g⟩ e H (fun u H' => ∃ b, u = .pointer (some ⟨b, 0, none⟩) ∧ H' = (b, J l t) :: H) := by
 intro w hw
 obtain ⟨z, hz, hc⟩ := Pm hl w
 refine gX (v := .pointer (some ⟨w.heap.size, 0, none⟩)) (w' := w.alloc (J l t)) ?_ ⟨_, hw.alloc _, _, U, U⟩
 simp [execOp, Instr.alloc, ay, hz, newVar, newRow, newObj, hc]
 rfl
def aDH {P : AL} {t : AJ} {x : AK} {b off : Nat} {v : AH} (hx : bC (ev e x) = some (.pointer (some ⟨b, off, none⟩))) (hs : wW P t = true) {w : AI}
  (hc : w.cell? ⟨b, off, none⟩ = some v) : (execOp (ev e) ⟨d, .load t x, ty, pos, af, g⟩).run P w = .ok (.value v) w := by
 have hx := bT hx
 simp [execOp, Instr.loadAt, Instr.sureAddr, hx, loadVar, ay, aGF hs, load, Sem.run, hc]
def aX {t : AJ} {x : AK} {b off : Nat} {v : AH} (hx : bC (ev e x) = some (.pointer (some ⟨b, off, none⟩))) (hs : wW Γ.P t = true)
  (hc : ∀ w, St Γ.w0 Γ.ms H w → w.cell? ⟨b, off, none⟩ = some v) : dZ Γ ⟨d, .load t x, ty, pos, af, g⟩ e H (fun u H' => u = v ∧ H' = H) :=
 fun w hw => gX (aDH hx hs (hc w hw)) ⟨H, hw, rfl, rfl⟩
def aEN {P : AL} {t : AJ} {x : AK} {b off : Nat} {l : AA} (hx : bC (ev e x) = some (.pointer (some ⟨b, off, none⟩))) (hs : rX P t = true) (hn : kU P t = some l.length) {w : AI}
  (hc : aK w b off l) : (execOp (ev e) ⟨d, .load t x, ty, pos, af, g⟩).run P w = .ok (.value (.agg l.toArray)) w := by
 have hx := bT hx
 have hl := run_loadCells_list (P := P) w ⟨b, off, none⟩ l hc.add
 simp [execOp, Instr.loadAt, Instr.sureAddr, hx, loadVar, ay, Fx hs, vI hn, hl]
def bX {t : AJ} {x : AK} {b off : Nat} {l : AA} (hx : bC (ev e x) = some (.pointer (some ⟨b, off, none⟩))) (hs : rX Γ.P t = true) (hn : kU Γ.P t = some l.length)
  (hc : ∀ w, St Γ.w0 Γ.ms H w → aK w b off l) : dZ Γ ⟨d, .load t x, ty, pos, af, g⟩ e H (fun u H' => u = .agg l.toArray ∧ H' = H) :=
 fun w hw => gX (aEN hx hs hn (hc w hw)) ⟨H, hw, rfl, rfl⟩
def bN {w0 : AI} {ms : AE} {b : Nat} {l : AA} {t : AJ} {fr : Nat × Nat} {off : Nat} {v : AH} (hm : (b, Obj.cells l.toArray t fr) ∈ H) (hv : l[off]? = some v) :
  ∀ w, St w0 ms H w → w.cell? ⟨b, off, none⟩ = some v := fun w hw => by rw [uO (hw.own_blk hm)]; simpa using hv
def cB {w0 : AI} {ms : AE} {b off : Nat} {v : AH} (hc : w0.cell? ⟨b, off, none⟩ = some v) (hb : b ∉ ms) : ∀ w, St w0 ms H w → w.cell? ⟨b, off, none⟩ = some v := fun w hw => by
 unfold World.cell? at hc ⊢
 simp only at hc ⊢
 cases hq : w0.heap[b]? with
 | none => simp [hq] at hc
 | some o => rw [hw.old hq hb]; rw [hq] at hc; exact hc
def aH {w0 : AI} {ms : AE} {b : Nat} {l : AA} {t : AJ} {fr : Nat × Nat} (hm : (b, Obj.cells l.toArray t fr) ∈ H) : ∀ w, St w0 ms H w → aK w b 0 l := fun _ hw => aK.all (hw.own_blk hm)
def cG {w0 : AI} {ms : AE} {b off : Nat} {l : AA} (hr : aK w0 b off l) (hb : b ∉ ms) : ∀ w, St w0 ms H w → aK w b off l := fun _ hw j v hv => cB (hr j v hv) hb _ hw
def aV (l : AA) (off : Nat) (vs : AA) : AA := l.take off ++ vs ++ l.drop (off + vs.length)
def St.setAt {w0 w w' : AI} {ms : AE} {H : aF} {i b : Nat} {o o' : Obj} (h : St w0 ms H w) (hi : H[i]? = some (b, o))
  (h1 : w'.os = w.os) (h2 : w'.tape = w.tape) (h3 : w'.output = w.output) (h4 : w'.heap.size = w.heap.size)
  (h5 : ∀ k, k ≠ b → w'.heap[k]? = w.heap[k]?) (h6 : w'.heap[b]? = some o') : St w0 ms (H.set i (b, o')) w' := by
 have hlt : i < H.length := (List.getElem?_eq_some_iff.1 hi).1
 have hget : H[i] = (b, o) := (List.getElem?_eq_some_iff.1 hi).2
 have hsplit : H = H.take i ++ (b, o) :: H.drop (i + 1) := by
  rw [← hget, List.getElem_cons_drop, dz]
 have hset : H.set i (b, o') = H.take i ++ (b, o') :: H.drop (i + 1) := by
  rw [d5, ag hlt]
 rw [hset]
 have h' : St w0 ms ((b, o) :: (H.take i ++ H.drop (i + 1))) w := h.perm (by
  conv => lhs; rw [hsplit]
  exact List.perm_middle)
 exact (h'.turn h1 h2 h3 h4 h5 h6).perm List.perm_middle.symm
def hQ {t : AJ} {x y : AK} {b off : Nat} {v : AH} {vs l : AA} {T : AJ} (i : Nat)
  (hx : bC (ev e x) = some (.pointer (some ⟨b, off, none⟩))) (hy : bC (ev e y) = some v) (hv : Ay v = some vs) (hn : kU Γ.P t = some vs.length) (h1 : fL vs = true)
  (hi : H[i]? = some (b, J l T)) (hl : off + vs.length ≤ l.length) :
  dZ Γ ⟨d, .store t x y, ty, pos, af, g⟩ e H (fun u H' => u = undef ∧ H' = H.set i (b, J (aV l off vs) T)) := by
 intro w hw
 have hx := bT hx
 have hy := bT hy
 have hg : w.heap[b]? = some (J l T) := hw.own_blk (cw hi)
 have hst := run_storeCells_at Γ.P b off T vs 0 l.toArray w hg (by simpa using hl) (by simpa [fL] using h1)
 simp only [gr] at hst
 have hc := Ft hv
 refine Zc (w' := w.setRow b (aV l off vs).toArray) ?_ ⟨_, ?_, U, U⟩
 ·simp [execOp, Instr.storeAt, Instr.sureAddr, hx, hy, storeVar, ay, vI hn, hc, hst, aV]
 ·exact hw.setAt hi U U U (by simp [World.setRow]) (fun k hk => setRow_other w b k _ hk) (setRow_heap w b _ _ T _ hg)
def aLe {t el : AJ} {len n : Nat} {parts : Array (Nat × AK)} {ps : List (Nat × AH)} {l : AA} {z : AA}
  (hu : Γ.P.underlying t = some (.slice el)) (hp : (parts.map fun (i, x) => (i, ev e x)).toList = ps) (hn : kU Γ.P el = some n) (hsm : Nat.ble (len * n) 16777216 = true) (hpos : Nat.ble 1 (len * n) = true)
  (hz : tJ Γ.P el = some z)
  (hf : Instr.fill (fun i => some (i * n, n)) ((Array.range (len * n)).map (z.toArray[· % z.toArray.size]!)) ps = some l.toArray) :
  dZ Γ ⟨d, .buildSlice t len parts, ty, pos, af, g⟩ e H (fun u H' => ∃ b, u = .slice (some ⟨b, 0, none⟩) len len ∧ H' = (b, J l el) :: H) := by
 intro w hw
 have h2 : ¬ len * n = 0 := by have := ai hpos; omega
 have h3 : ¬ len * n > 2 ^ 24 := by have := ai hsm; omega
 obtain ⟨zv, hzv, hzc⟩ := Pm hz w
 refine gX (v := .slice (some ⟨w.heap.size, 0, none⟩) len len) (w' := w.alloc (J l el)) ?_ ⟨_, hw.alloc _, _, U, U⟩
 subst hp
 have key : (Instr.buildSlice t len (parts.map fun (i, x) => (i, ev e x))).run Γ.P w = .ok (.slice (some ⟨w.heap.size, 0, none⟩) len len) (w.alloc (J l el)) := by
  unfold Instr.buildSlice
  simp only [ay, run_underlying hu, vI hn, au, h2, h3, if_false, hzv, hzc, hf, ca]
  rfl
 simp only [execOp, ay, key, au, ca]
end
section
variable {P : AL} {Γ : dQ} {e : bB} {H : aF} {d : AD} {ty : AJ} {pos : String} {af : AG} {g : Option (Nat × Bool)}
def rE (P : AL) (t : AJ) : Option (Nat × Nat) :=
 match P.underlying t with
 | some (.slice el) => match kU P el with
  | some s => some (el, s)
  | none => none
 | _ => none
def wA (P : AL) (t : AJ) : Option (Nat × Nat × Nat) :=
 match P.underlying t with
 | some (.array n el) => match kU P el with
  | some s => some (n, el, s)
  | none => none
 | _ => none
def wZ {t el s : Nat} (h : rE P t = some (el, s)) : P.underlying t = some (.slice el) ∧ kU P el = some s := by
 unfold rE at h
 split at h
 ·rename_i el' hu
  split at h
  ·rename_i s' hs; cases h; exact ⟨hu, hs⟩
  ·cases h
 ·cases h
def Iz {t n el s : Nat} (h : wA P t = some (n, el, s)) : P.underlying t = some (.array n el) ∧ kU P el = some s := by
 unfold wA at h
 split at h
 ·rename_i n' el' hu
  split at h
  ·rename_i s' hs; cases h; exact ⟨hu, hs⟩
  ·cases h
 ·cases h
def xF (b off k : Nat) : (⟨b, off, none⟩ : Addr).add k = ⟨b, off + k, none⟩ := by unfold Addr.add; split <;> simp_all
def mS {α : Type} {t : AJ} {D : TypeDesc} (h : P.underlying t = some D) (f : TypeDesc → Sem α) : eR P (underlying t >>= f) = eR P (f D) := by
 simp [underlying, program, bind, Sem.bind, eR, h, pure]
def uZ {α : Type} {t n : Nat} (h : kU P t = some n) (f : Nat → Sem α) : eR P (sizeOf t >>= f) = eR P (f n) := by
 unfold kU at h
 cases hq : P.info? t with
 | none => simp [hq] at h
 | some i =>
  have : i.size = n := by simpa [hq] using h
  simp [sizeOf, typeInfo, program, bind, Sem.bind, eR, hq, pure, this]
def qQ {α β : Type} (a : α) (f : α → Sem β) : eR P ((pure a : Sem α) >>= f) = eR P (f a) := rfl
def jA {o : Oper} {v : AH} (h : eR P (execOp (ev e) o) = some (.value v)) (hv : bC v = some v) : dT P e o = some v := by
 simp [dT, h, hv]
def fO {t : AJ} {x i : AK} {b off n c el s : Nat} {k : AM} {j : Int} (m : Nat) (hx : bC (ev e x) = some (.slice (some ⟨b, off, none⟩) n c)) (hi : bC (ev e i) = some (.int k j))
  (hu : rE P t = some (el, s)) (hj : j = (m : Int)) (hm : m < n) :
  dT P e ⟨d, .indexAddr t x i, ty, pos, af, g⟩ = some (.pointer (some ⟨b, off + m * s, none⟩)) := by
 obtain ⟨h1, h2⟩ := wZ hu
 have hx := bT hx
 have hi := bT hi
 subst hj
 refine jA ?_ U
 have h3 : (0 : Int) ≤ (m : Int) ∧ (m : Int) < (n : Int) := ⟨by omega, by omega⟩
 simp only [execOp, hx, hi, Instr.indexAt, asIntOf, qQ, bind_assoc, mS h1, h3, and_self, if_true, uZ h2, db, xF]
 rfl
def iP {t : AJ} {x i : AK} {b off n el s : Nat} {k : AM} {j : Int} (m : Nat) (hx : bC (ev e x) = some (.pointer (some ⟨b, off, none⟩))) (hi : bC (ev e i) = some (.int k j))
  (hu : wA P t = some (n, el, s)) (hj : j = (m : Int)) (hm : m < n) :
  dT P e ⟨d, .indexAddr t x i, ty, pos, af, g⟩ = some (.pointer (some ⟨b, off + m * s, none⟩)) := by
 obtain ⟨h1, h2⟩ := Iz hu
 have hx := bT hx
 have hi := bT hi
 subst hj
 refine jA ?_ U
 have h3 : (0 : Int) ≤ (m : Int) ∧ (m : Int) < (n : Int) := ⟨by omega, by omega⟩
 simp only [execOp, hx, hi, Instr.indexAt, asIntOf, Instr.sureAddr, qQ, bind_assoc, mS h1, h3, and_self, if_true, uZ h2, db, xF]
 rfl
def eB {t : AJ} {x i : AK} {b off n c el : Nat} {k : AM} {j : Int} (m : Nat) (hx : bC (ev e x) = some (.slice (some ⟨b, off, none⟩) n c)) (hi : bC (ev e i) = some (.int k j))
  (hu : rE P t = some (el, 1)) (hj : j = (m : Int)) (hm : m < n) :
  dT P e ⟨d, .indexAddr t x i, ty, pos, af, g⟩ = some (.pointer (some ⟨b, off + m, none⟩)) := by
 have := fO (d := d) (ty := ty) (pos := pos) (af := af) (g := g) m hx hi hu hj hm
 rwa [fq] at this
def eG {t : AJ} {x i : AK} {b off n el : Nat} {k : AM} {j : Int} (m : Nat) (hx : bC (ev e x) = some (.pointer (some ⟨b, off, none⟩))) (hi : bC (ev e i) = some (.int k j))
  (hu : wA P t = some (n, el, 1)) (hj : j = (m : Int)) (hm : m < n) :
  dT P e ⟨d, .indexAddr t x i, ty, pos, af, g⟩ = some (.pointer (some ⟨b, off + m, none⟩)) := by
 have := iP (d := d) (ty := ty) (pos := pos) (af := af) (g := g) m hx hi hu hj hm
 rwa [fq] at this
def Jy {t : AJ} {x i : AK} {b n el : Nat} {k : AM} {j : Int} (m : Nat) (hx : bC (ev e x) = some (.pointer (some ⟨b, 0, none⟩))) (hi : bC (ev e i) = some (.int k j))
  (hu : wA P t = some (n, el, 1)) (hj : j = (m : Int)) (hm : m < n) :
  dT P e ⟨d, .indexAddr t x i, ty, pos, af, g⟩ = some (.pointer (some ⟨b, m, none⟩)) := by
 have := eG (d := d) (ty := ty) (pos := pos) (af := af) (g := g) m hx hi hu hj hm
 rwa [cg] at this
def mU (off l s c : Nat) : Nat := if c = l then off else off + l * s
def aK.cut {w : AI} {b off : Nat} {L : AA} (h : aK w b off L) {l k s c : Nat} (hc : l + k ≤ c) : aK w b (mU off l s c) ((L.drop (l * s)).take (k * s)) := by
 unfold mU
 by_cases hcl : c = l
 ·rw [ag hcl]
  have : k = 0 := by omega
  subst this
  simp only [gj, gi]
  exact aK.nil w b off
 ·rw [ae hcl]
  intro j v hv
  rw [fe] at hv
  split at hv
  ·rw [ee] at hv
   rw [eh]; exact h _ _ hv
  ·cases hv
def cut1 (off l c : Nat) : Nat := if c = l then off else off + l
def K8 (off l c : Nat) : mU off l 1 c = cut1 off l c := by simp [mU, cut1]
def aK.cut1 {w : AI} {b off : Nat} {L : AA} (h : aK w b off L) {l k c : Nat} (hc : l + k ≤ c) : aK w b (VV.cut1 off l c) ((L.drop l).take k) := by
 have := h.cut (l := l) (k := k) (s := 1) hc
 rwa [K8, fq, fq] at this
def aAr (e : bB) (x : AK) : Option Int :=
 match bC (ev e x) with
 | some (.int _ j) => some j
 | _ => none
def nX (e : bB) : Option AK → Option (Option Int)
 | none => some none
 | some x => (aAr e x).map some
def Iv {x : AK} {j : Int} {m y : Nat} {code : BoundsCode} (hx : nX e (some x) = some (some j)) (hj : j = (m : Int)) (hm : m ≤ y) :
  Instr.sliceBound (ev e x) y code = pure m := by
 simp only [nX, Option.map_eq_some_iff, Option.some.injEq, exists_eq_right] at hx
 unfold aAr at hx
 split at hx
 ·rename_i h
  simp only [Option.some.injEq] at hx
  subst hx
  have := bT h
  subst hj
  have h3 : (0 : Int) ≤ (m : Int) ∧ (m : Int) ≤ (y : Int) := ⟨by omega, by omega⟩
  simp [Instr.sliceBound, this, asIntOf, h3]
 ·cases hx
def K9 {isS : Bool} {lo hi : Option AK} {n c : Nat} {jl jh : Option Int} (l h : Nat)
  (hlo : nX e lo = some jl) (hhi : nX e hi = some jh) (hl : jl.getD 0 = (l : Int)) (hh : jh.getD n = (h : Int)) (h1 : l ≤ h) (h2 : h ≤ c) :
  Instr.sliceBounds isS n c (lo.map (ev e)) (hi.map (ev e)) none = pure (l, h, c) := by
 have bn : ∀ (x : AK), nX e (some x) ≠ some none := fun x hx => by
  simp [nX] at hx
 have fin : ∀ (f : BoundsCode → Sem Nat), (∀ code, f code = (pure h : Sem Nat)) → ∀ cd, ((f cd >>= fun h' => (match lo.map (ev e) with
   | some v => Instr.sliceBound v h' .sliceB
   | none => (pure 0 : Sem Nat)) >>= fun l => pure (l, h', c)) : Sem (Nat × Nat × Nat)) = pure (l, h, c) := by
  intro f hf cd
  rw [hf]
  simp only [pure_bind]
  cases lo with
  | none =>
   cases hlo
   simp only [Option.getD_none] at hl
   have : l = 0 := by omega
   subst this
   rfl
  | some y =>
   cases jl with
   | none => exact absurd hlo (bn y)
   | some j =>
    simp only [i6]
    rw [Iv hlo (by simpa using hl) h1]
    rfl
 cases hi with
 | none =>
  cases hhi
  simp only [Option.getD_none] at hh
  have hnh : n = h := by omega
  subst hnh
  have := fin (fun _ => pure n) (fun _ => rfl) .index
  cases lo <;> (simp only [Instr.sliceBounds] ; exact this)
 | some y =>
  cases jh with
  | none => exact absurd hhi (bn y)
  | some j =>
   have := fin (fun cd => Instr.sliceBound (ev e y) c cd) (fun cd => Iv hhi (by simpa using hh) h2) (if isS then .sliceAcap else .sliceAlen)
   cases lo <;> (simp only [Instr.sliceBounds] ; exact this)
def wG {t : AJ} {x : AK} {lo hi : Option AK} {b off n c el s : Nat} {jl jh : Option Int} (l h : Nat) (hx : bC (ev e x) = some (.slice (some ⟨b, off, none⟩) n c))
  (hu : rE P t = some (el, s)) (hlo : nX e lo = some jl) (hhi : nX e hi = some jh) (hl : jl.getD 0 = (l : Int)) (hh : jh.getD n = (h : Int)) (h1 : l ≤ h) (h2 : h ≤ c) :
  dT P e ⟨d, .slice t x lo hi none, ty, pos, af, g⟩ = some (.slice (some ⟨b, mU off l s c, none⟩) (h - l) (c - l)) := by
 obtain ⟨g1, g2⟩ := wZ hu
 have hx := bT hx
 refine jA ?_ U
 have hb := K9 (isS := true) l h hlo hhi hl hh h1 h2
 simp only [execOp, hx, Instr.sliceAt, Instr.slice, bind_assoc, mS g1, i7, hb, qQ, uZ g2]
 unfold mU
 by_cases hcl : c = l
 ·simp only [hcl, if_true]; rfl
 ·simp only [hcl, if_false, i6, xF]; rfl
def aFz {t : AJ} {x : AK} {lo hi : Option AK} {b off n el s : Nat} {jl jh : Option Int} (l h : Nat) (hx : bC (ev e x) = some (.pointer (some ⟨b, off, none⟩)))
  (hu : wA P t = some (n, el, s)) (hlo : nX e lo = some jl) (hhi : nX e hi = some jh) (hl : jl.getD 0 = (l : Int)) (hh : jh.getD n = (h : Int)) (h1 : l ≤ h) (h2 : h ≤ n) :
  dT P e ⟨d, .slice t x lo hi none, ty, pos, af, g⟩ = some (.slice (some ⟨b, mU off l s n, none⟩) (h - l) (n - l)) := by
 obtain ⟨g1, g2⟩ := Iz hu
 have hx := bT hx
 refine jA ?_ U
 have hb := K9 (isS := false) l h hlo hhi hl hh h1 h2
 simp only [execOp, hx, Instr.sliceAt, Instr.sureAddr, bind_assoc, qQ, mS g1, i7, hb, uZ g2]
 unfold mU
 by_cases hcl : n = l
 ·simp only [hcl, if_true]; rfl
 ·simp only [hcl, if_false, xF]; rfl
def mB {t : AJ} {x : AK} {lo hi : Option AK} {b off n c el : Nat} {jl jh : Option Int} (l h : Nat) (hx : bC (ev e x) = some (.slice (some ⟨b, off, none⟩) n c))
  (hu : rE P t = some (el, 1)) (hlo : nX e lo = some jl) (hhi : nX e hi = some jh) (hl : jl.getD 0 = (l : Int)) (hh : jh.getD n = (h : Int)) (h1 : l ≤ h) (h2 : h ≤ c) :
  dT P e ⟨d, .slice t x lo hi none, ty, pos, af, g⟩ = some (.slice (some ⟨b, cut1 off l c, none⟩) (h - l) (c - l)) := by
 have := wG (d := d) (ty := ty) (pos := pos) (af := af) (g := g) l h hx hu hlo hhi hl hh h1 h2
 rwa [K8] at this
def pC {t : AJ} {x : AK} {lo hi : Option AK} {b off n el : Nat} {jl jh : Option Int} (l h : Nat) (hx : bC (ev e x) = some (.pointer (some ⟨b, off, none⟩)))
  (hu : wA P t = some (n, el, 1)) (hlo : nX e lo = some jl) (hhi : nX e hi = some jh) (hl : jl.getD 0 = (l : Int)) (hh : jh.getD n = (h : Int)) (h1 : l ≤ h) (h2 : h ≤ n) :
  dT P e ⟨d, .slice t x lo hi none, ty, pos, af, g⟩ = some (.slice (some ⟨b, cut1 off l n, none⟩) (h - l) (n - l)) := by
 have := aFz (d := d) (ty := ty) (pos := pos) (af := af) (g := g) l h hx hu hlo hhi hl hh h1 h2
 rwa [K8] at this
inductive bM (T s : Nat) : AH → Nat → AA → aF → Prop
 | nil : bM T s (.slice none 0 0) 0 [] []
 | row (b n cap : Nat) (xs sp : AA) (hn : xs.length = n * s) (hc : (xs ++ sp).length = cap * s) (hm : cap ≤ maxLen) (hle : n ≤ cap) : bM T s (.slice (some ⟨b, 0, none⟩) n cap) n xs [(b, J (xs ++ sp) T)]
def bM.len {T s : Nat} {v : AH} {n : Nat} {xs : AA} {G : aF} (h : bM T s v n xs G) : xs.length = n * s := by
 cases h with
 | nil => simp
 | row _ _ _ _ _ hn => exact hn
def bM.slice {T s : Nat} {v : AH} {n : Nat} {xs : AA} {G : aF} (h : bM T s v n xs G) : ∃ a c, v = .slice a n c := by
 cases h with
 | nil => exact ⟨_, _, rfl⟩
 | row _ _ _ _ _ _ _ _ _ => exact ⟨_, _, rfl⟩
inductive uB (w : AI) (s : Nat) : AH → Nat → AA → Prop
 | row (b off m c : Nat) (xs : AA) (hn : xs.length = m * s) (hr : aK w b off xs) : uB w s (.slice (some ⟨b, off, none⟩) m c) m xs
def bM.owns {T s : Nat} {v : AH} {n : Nat} {xs : AA} {G : aF} (h : bM T s v n xs G) {w0 w : AI} {ms : AE} {R : aF} (hw : St w0 ms (G ++ R) w) : w.ownsRow 0 T s v n xs := by
 cases h with
 | nil => exact ⟨by simp, .inl ⟨rfl, rfl⟩⟩
 | row b n cap xs sp hn hc hm hle =>
  refine ⟨hn, .inr ⟨b, cap, (xs ++ sp).toArray, U, av _, hw.own_blk (by simp), hle, hm, by simpa using hc, ?_⟩⟩
  simp [← hn]
def bM.of_owns {T s : Nat} {v : AH} {n : Nat} {xs : AA} {w : AI} (h : w.ownsRow 0 T s v n xs) :
  ∃ G, bM T s v n xs G ∧ (∀ x ∈ G, w.heap[x.1]? = some x.2) ∧ (∀ x ∈ G, v.ownBlock = some x.1) ∧ (G.map (·.1)).Nodup := by
 obtain ⟨h1, h2⟩ := h
 rcases h2 with ⟨rfl, rfl⟩ | ⟨b, cap, cur, rfl, _, hb, hle, hm, hc, ht⟩
 ·have : xs = [] := dg (by simpa using h1)
  subst this
  exact ⟨[], .nil, by simp, by simp, by simp⟩
 ·refine ⟨_, .row b n cap xs (cur.toList.drop (n * s)) h1 ?_ hm hle, ?_, ?_, by simp⟩
  ·rw [← ht, dz]; simpa using hc
  ·intro x hx
   simp only [ik] at hx
   subst hx
   rw [hb]
   simp only [J]
   congr 2
   rw [← ht, dz]
  ·intro x hx
   simp only [ik] at hx
   subst hx; rfl
def wV (P : AL) (t : AJ) : Option (Nat × Nat × Nat) :=
 match P.underlying t with
 | some (.slice el) => match P.info? el with
  | some i => match i.zero with
   | some z => if z.cells.size = i.size ∧ 0 < i.size then some (el, i.size, i.bytes) else none
   | none => none
  | none => none
 | _ => none
def aFZ (w : AI) (t ty el : AJ) (i : TypeInfo) (z : AH) (hu : P.underlying t = some (.slice el)) (hi : P.info? el = some i) (hz : i.zero = some z) (v : AH) (n : Nat) (xs : AA)
  (hown : w.ownsRow 0 el i.size v n xs) (b off m c : Nat) (ys : AA) (hn : ys.length = m * i.size) (hr : ∀ j u, ys[j]? = some u → w.cell? ((⟨b, off, none⟩ : Addr).add j) = some u) (h1 : ∀ u ∈ ys, u.oneCell' = true)
  (h63 : n + m ≤ maxLen) (hbytes : (n + m) * i.bytes ≤ 140737488355328) {v' : AH} {w' : AI}
  (hrun : (Builtin.append_ #[t, t] ty #[v, .slice (some ⟨b, off, none⟩) m c]).run P w = .ok v' w') :
  v'.ownBlock = v.ownBlock ∨ v'.ownBlock = some w.heap.size := by
 have hsm : n + m ≤ 9223372036854775807 := by unfold maxLen at h63; omega
 obtain ⟨hx, h2⟩ := hown
 rcases h2 with ⟨rfl, rfl⟩ | ⟨g, cap, cur, rfl, _, hg, hle, hm, hcs, htake⟩
 ·by_cases hm0 : m = 0
  ·subst hm0
   have hys : ys = [] := dg (by simpa using hn)
   subst hys
   have hr0 : (Builtin.append_ #[t, t] ty #[.slice none 0 0, .slice (some ⟨b, off, none⟩) 0 c]).run P w = .ok (.slice none 0 0) w := by
    simp [Builtin.append_, run_underlying hu, sizeOf, typeInfo, hi, Builtin.lenOf, Builtin.firstCells, loadCells, loadCellsFrom]
   rw [hr0] at hrun
   cases hrun
   exact .inl U
  ·have h3 := run_append_nil (P := P) w t ty el i z hu hi hz ⟨b, off, none⟩ m c ys hn hr (by omega) (by omega) (by simp only [cg] at hbytes; omega)
   rw [h3] at hrun
   cases hrun
   exact .inr U
 ·by_cases hroom : n + m ≤ cap
  ·have hfit : n * i.size + ys.length ≤ cur.size := by rw [hn, hcs, ← jk]; exact gc _ hroom
   have h3 := run_append_room (P := P) w t ty el i hu hi g n cap cur hg ⟨b, off, none⟩ m c ys hn hr h1 hroom hfit
   rw [h3] at hrun
   cases hrun
   exact .inl U
  ·have holds : ∀ j u, xs[j]? = some u → w.cell? ((⟨g, 0, none⟩ : Addr).add j) = some u := World.ownsRow.cells ⟨hx, .inr ⟨g, cap, cur, rfl, av _, hg, hle, hm, hcs, htake⟩⟩ rfl
   have h3 := run_append_grow (P := P) w t ty el i z hu hi hz ⟨g, 0, none⟩ n cap xs hx holds ⟨b, off, none⟩ m c ys hn hr (by omega) (by omega) (growslice_fits (by omega) hbytes)
   rw [h3] at hrun
   cases hrun
   exact .inr U
def mO {t : AJ} {x y : AK} {T s by_ : Nat} {v u : AH} {n m : Nat} {xs ys : AA} {G A R : aF} {ts : Array AJ}
  (hx : ev e x = v) (hy : ev e y = u) (hts : ts = #[t, t]) (hp : wV Γ.P t = some (T, s, by_)) (hv : bM T s v n xs G)
  (hs : ∀ w, St Γ.w0 Γ.ms (A ++ (G ++ R)) w → uB w s u m ys) (h1 : fL ys = true) (hlen : n + m ≤ 140737488355328) (hb : (n + m) * by_ ≤ 140737488355328) :
  dZ Γ ⟨d, .call ⟨.builtin .append, #[x, y], ts⟩, ty, pos, af, g⟩ e (A ++ (G ++ R)) (fun v' H' => ∃ G', bM T s v' (n + m) (xs ++ ys) G' ∧ (v' = .slice none 0 0 → n = 0 ∧ m = 0) ∧ H' = G' ++ (A ++ R)) := by
 intro w hw
 subst hts hx hy
 unfold wV at hp
 split at hp <;> try cases hp
 rename_i el hu
 split at hp <;> try cases hp
 rename_i i hi
 split at hp <;> try cases hp
 rename_i z hz
 split at hp <;> try cases hp
 rename_i hzs
 obtain ⟨hz1, hz2⟩ := hzs
 have hw2 : St Γ.w0 Γ.ms (G ++ (A ++ R)) w := hw.perm (by
  rw [← de, ← de]
  exact d7 R bg)
 have hs' := hs w hw
 generalize hue : ev e y = u at hs'
 generalize hve : ev e x = v at hv
 cases hs' with
 | row b off m c ys hn hr =>
  have hown := hv.owns hw2
  obtain ⟨v', w', hrun, hown', hgr, hnil⟩ := run_append_own (P := Γ.P) w 0 t ty T i z i.size i.bytes hu hi hz rfl rfl hz1 hz2 v n xs hown ⟨b, off, none⟩ m c ys hn hr.add (by simpa [fL] using h1) (by unfold maxLen; omega) (by omega) (av _)
  obtain ⟨G', hV', hG', hGo, hGn⟩ := bM.of_owns hown'
  have hnd := hw2.nodup
  rw [bz, ed] at hnd
  obtain ⟨hnG, hnR, hGR⟩ := hnd
  have hvb : ∀ k, v.ownBlock = some k → ∃ o, (k, o) ∈ G := by
   intro k hk
   cases hv with
   | nil => cases hk
   | row b2 _ cap2 _ sp2 _ _ _ _ =>
    simp only [Value.ownBlock, Option.some.injEq] at hk
    subst hk
    exact ⟨J (xs ++ sp2) T, by simp⟩
  have hkeep : ∀ k, k < w.heap.size → (∀ o, (k, o) ∉ G) → w'.heap[k]? = w.heap[k]? := fun k hk hno => hgr.block k hk (fun he => by
   obtain ⟨o, ho⟩ := hvb k he.symm
   exact hno o ho)
  have hnew : ∀ x ∈ G', (∃ o, (x.1, o) ∈ G) ∨ w.heap.size ≤ x.1 := by
   intro x hx
   have h3 := hGo x hx
   have h4 := hG' x hx
   by_cases hlt : x.1 < w.heap.size
   ·by_cases hno : ∃ o, (x.1, o) ∈ G
    ·exact .inl hno
    ·exfalso
     rcases aFZ (P := Γ.P) w t ty T i z hu hi hz v n xs hown b off m c ys hn hr.add (by simpa [fL] using h1) (by unfold maxLen; omega) (by omega) hrun with hc | hc
     ·rw [hc] at h3
      exact hno (hvb _ h3)
     ·rw [hc] at h3; simp only [Option.some.injEq] at h3; omega
   ·exact .inr (by omega)
  have hA : St Γ.w0 Γ.ms (G' ++ (A ++ R)) w' := by
   refine ⟨hgr.os.trans hw2.os, hgr.tape.trans hw2.tape, hgr.output.trans hw2.output, ij hw2.size hgr.size, ?_, ?_, ?_, ?_⟩
   ·intro k hk hm2
    have hsz := hw2.size
    rw [hkeep k (by omega) ?_]
    ·exact hw2.block k hk hm2
    ·intro o ho
     rcases hw2.own (k, o) (by simp [ho]) with h7 | h7
     ·exact hm2 h7
     ·simp at h7; omega
   ·rw [bz, ed]
    refine ⟨hGn, hnR, ?_⟩
    intro a ha b2 hb2 hab
    obtain ⟨x, hx, rfl⟩ := List.mem_map.1 ha
    obtain ⟨y2, hy2, rfl⟩ := List.mem_map.1 hb2
    rcases hnew x hx with ⟨o, ho⟩ | h8
    ·exact hGR _ (List.mem_map.2 ⟨_, ho, U⟩) _ (List.mem_map.2 ⟨y2, hy2, U⟩) hab
    ·have := hw2.lt (x := y2) (by simp only [ja] at hy2 ⊢; exact .inr hy2)
     omega
   ·intro x hx
    rcases List.mem_append.1 hx with hx | hx
    ·rcases hnew x hx with ⟨o, ho⟩ | h8
     ·exact hw2.own (x.1, o) (by simp [ho])
     ·have := hw2.size; exact .inr (by omega)
    ·exact hw2.own x (List.mem_append.2 (.inr hx))
   ·intro x hx
    rcases List.mem_append.1 hx with hx | hx
    ·exact hG' x hx
    ·rw [hkeep x.1 (hw2.lt (List.mem_append.2 (.inr hx))) ?_]
     ·exact hw2.holds x (List.mem_append.2 (.inr hx))
     ·intro o ho
      exact hGR _ (List.mem_map.2 ⟨_, ho, U⟩) _ (List.mem_map.2 ⟨x, hx, U⟩) U
  refine gX (v := v') (w' := w') ?_ ⟨_, hA, G', hV', fun h9 => ?_, U⟩
  ·simp only [execOp, resolve, ay, ca, au, invoke, builtin, dj, cu, dk, hue, hve, hrun]
  ·obtain ⟨h10, h11⟩ := hnil.1 h9
   subst h10
   cases hv
   exact ⟨U, h11⟩
end
section
variable {P : AL} {Γ : dQ} {k : fT} {e : bB} {H F : aF} {ops rest : List Oper} {d : AD} {op : Op} {t : AJ} {pos : String} {af : AG} {g : Option (Nat × Bool)}
 {need : AE} {pl : lH} {i : Nat}
def M4 {K : AH → aF → Prop} (hop : dZ Γ ⟨d, op, t, pos, af, g⟩ e H K) (hg : eZ ops e ⟨d, op, t, pos, af, g⟩ = true) (hd : eS Γ.n d = true)
  (hk : ∀ v H', K v H' → L1 Γ ops rest k (e.put d v) H') : L1 Γ ops (⟨d, op, t, pos, af, g⟩ :: rest) k e H := Qf hg hd hop hk
def Kv {v : AH} (hl : dT Γ.P e ⟨d, op, t, pos, af, g⟩ = some v) (hg : eZ ops e ⟨d, op, t, pos, af, g⟩ = true) (hd : eS Γ.n d = true)
  (h : L1 Γ ops rest k (e.put d v) H) : L1 Γ ops (⟨d, op, t, pos, af, g⟩ :: rest) k e H := Vy hl hg hd h
def l_b {b : Bool} (hl : dT Γ.P e ⟨d, op, t, pos, af, g⟩ = some (.bool b)) (hg : eZ ops e ⟨d, op, t, pos, af, g⟩ = true) (hd : eS Γ.n d = true)
  (ht : b = true → L1 Γ ops rest k (e.put d (.bool true)) H) (hf : b = false → L1 Γ ops rest k (e.put d (.bool false)) H) : L1 Γ ops (⟨d, op, t, pos, af, g⟩ :: rest) k e H := aLa hl hg hd ht hf
def l_p (hg : eZ ops e ⟨d, op, t, pos, af, g⟩ = false) (hd : eS Γ.n d = true)
  (h : L1 Γ ops rest k (e.put d undef) H) : L1 Γ ops (⟨d, op, t, pos, af, g⟩ :: rest) k e H := aHe hg hd h
def d_x {K : AH → aF → Prop} (ho : ops[i]? = some ⟨d, op, t, pos, af, g⟩) (hop : dZ Γ ⟨d, op, t, pos, af, g⟩ e H K) (hg : eZ ops e ⟨d, op, t, pos, af, g⟩ = true) (hd : eS Γ.n d = true)
  (hn : need.any (Nat.beq i) = true → ∀ v H', K v H' → ∀ x ∈ F, x ∈ H')
  (hk : ∀ v H', K v H' → L2 Γ ops (kK Γ F) need pl k (e.put d v) H') : L2 Γ ops (kK Γ F) need (.step false i pl) k e H :=
 aMM ho hg hd hop (fun hx v H' _ hK hw => ⟨H', hw, hn hx v H' hK⟩) hk
def eN {b : Nat} {l : AA} {T : AJ} {fr : Nat × Nat} {off : Nat} {v : AH} (hm : (b, Obj.cells l.toArray T fr) ∈ F) (hv : l[off]? = some v) :
  ∀ w, kK Γ F w → w.cell? ⟨b, off, none⟩ = some v := fun w ⟨_, hw, hF⟩ => bN (hF _ hm) hv w hw
def gD {b off : Nat} {v : AH} (hc : Γ.w0.cell? ⟨b, off, none⟩ = some v) (hb : b ∉ Γ.ms) : ∀ w, kK Γ F w → w.cell? ⟨b, off, none⟩ = some v :=
 fun w ⟨_, hw, _⟩ => cB hc hb w hw
def kN {b : Nat} {l : AA} {T : AJ} {fr : Nat × Nat} (hm : (b, Obj.cells l.toArray T fr) ∈ F) : ∀ w, kK Γ F w → aK w b 0 l := fun w ⟨_, hw, hF⟩ => aH (hF _ hm) w hw
def Yv {b off : Nat} {l : AA} (hr : aK Γ.w0 b off l) (hb : b ∉ Γ.ms) : ∀ w, kK Γ F w → aK w b off l := fun w ⟨_, hw, _⟩ => cG hr hb w hw
def W3 {T : AJ} {x : AK} {b off : Nat} {v : AH} (ho : ops[i]? = some ⟨d, .load T x, t, pos, af, g⟩) (hx : bC (ev e x) = some (.pointer (some ⟨b, off, none⟩))) (hs : wW Γ.P T = true)
  (hc : ∀ w, kK Γ F w → w.cell? ⟨b, off, none⟩ = some v)
  (hg : eZ ops e ⟨d, .load T x, t, pos, af, g⟩ = true) (hd : eS Γ.n d = true)
  (h : L2 Γ ops (kK Γ F) need pl k (e.put d v) H) : L2 Γ ops (kK Γ F) need (.step true i pl) k e H :=
 Jq ho hg hd (fun w hS => aDH hx hs (hc w (hS rfl))) h
def gL {T : AJ} {x : AK} {b off : Nat} {l : AA} (ho : ops[i]? = some ⟨d, .load T x, t, pos, af, g⟩) (hx : bC (ev e x) = some (.pointer (some ⟨b, off, none⟩))) (hs : rX Γ.P T = true) (hn : kU Γ.P T = some l.length)
  (hc : ∀ w, kK Γ F w → aK w b off l)
  (hg : eZ ops e ⟨d, .load T x, t, pos, af, g⟩ = true) (hd : eS Γ.n d = true)
  (h : L2 Γ ops (kK Γ F) need pl k (e.put d (.agg l.toArray)) H) : L2 Γ ops (kK Γ F) need (.step true i pl) k e H :=
 Jq ho hg hd (fun w hS => aEN hx hs hn (hc w (hS rfl))) h
def cQ {f : Nat} {l : AF} {ts : Array AJ} {vs : AA} (hc : gR Γ.P f = true) (hv : lI e l = some vs) {R : AH → aF → Prop}
  (hf : ∀ w, St Γ.w0 Γ.ms H w → aG Γ.P f vs w [] R) :
  dZ Γ ⟨d, .call ⟨.value (.func f), l.toArray, ts⟩, t, pos, af, g⟩ e H (fun v H2 => ∃ H', R v H' ∧ H2 = H' ++ H) :=
 fun w hw => Z3 (F := []) (G := H) [] hc hv hw (by simp) (hf w hw) fun _ _ _ h1 _ h2 => ⟨_, h2, _, h1, rfl⟩
def kM {A G : aF} {f : Nat} {l : AF} {ts : Array AJ} {vs : AA} (ms2 : AE) (hc : gR Γ.P f = true) (hv : lI e l = some vs) {R : AH → aF → Prop}
  (hms : ∀ b ∈ ms2, ∃ o, (b, o) ∈ A) (hf : ∀ w, St Γ.w0 Γ.ms (A ++ G) w → aG Γ.P f vs w ms2 R) :
  dZ Γ ⟨d, .call ⟨.value (.func f), l.toArray, ts⟩, t, pos, af, g⟩ e (A ++ G) (fun v H2 => ∃ H', R v H' ∧ H2 = H' ++ G) :=
 fun w hw => Z3 (F := A) (G := G) ms2 hc hv hw hms (hf w hw) fun _ _ _ h1 _ h2 => ⟨_, h2, _, h1, rfl⟩
def D1 {x y : AK} {ts : Array AJ} {tx ty el : AJ} {b off dl dc m : Nat} {u : AH} {l ys : AA} {T : AJ} (i : Nat)
  (hx : bC (ev e x) = some (.slice (some ⟨b, off, none⟩) dl dc)) (hy : ev e y = u) (hts : ts = #[tx, ty]) (hu : rE Γ.P tx = some (el, 1))
  (hi : H[i]? = some (b, J l T)) (hs : ∀ w, St Γ.w0 Γ.ms H w → uB w 1 u m ys) (h1 : fL ys = true) (hl : off + min m dl ≤ l.length) :
  dZ Γ ⟨d, .call ⟨.builtin .copy, #[x, y], ts⟩, t, pos, af, g⟩ e H (fun v H' => v = .int .i64 (min m dl : Nat) ∧ H' = H.set i (b, J (aV l off (ys.take (min m dl))) T)) := by
 intro w hw
 subst hts hy
 obtain ⟨g1, g2⟩ := wZ hu
 have hx := bT hx
 have hg : w.heap[b]? = some (J l T) := hw.own_blk (cw hi)
 have hs' := hs w hw
 generalize hue : ev e y = u at hs'
 cases hs' with
 | row b2 off2 m c ys hn hr =>
  have hlen : (ys.take (min m dl)).length = min m dl := by rw [f0]; omega
  have hrun := run_copy_row (P := Γ.P) w tx ty t el b off dl dc ⟨b2, off2, none⟩ m c l.toArray T (ys.take (min m dl)) g1 g2 hg (by rw [hlen])
   (fun j v hv => hr.add j v (by
    rw [fe] at hv
    split at hv
    ·exact hv
    ·cases hv)) (by rw [hlen]; simpa using hl) (fun v hv => by
    have := dh hv
    exact List.all_eq_true.1 h1 v this)
  rw [hlen] at hrun
  refine gX (v := .int .i64 (min m dl : Nat)) (w' := w.setRow b (aV l off (ys.take (min m dl))).toArray) ?_ ⟨_, ?_, U, U⟩
  ·have e1 : aV l off (ys.take (min m dl)) = l.take off ++ ys.take (min m dl) ++ l.drop (off + min m dl) := by rw [aV, hlen]
   rw [e1]
   simp only [execOp, resolve, ay, ca, au, invoke, builtin, dj, cu, dk, hx, hue, hrun]
   rfl
  ·exact hw.setAt hi U U U (by simp [World.setRow]) (fun k hk => setRow_other w b k _ hk) (setRow_heap w b _ _ T _ hg)
def Cy {s : Nat} {w : AI} {v : AH} (h : bC (e s) = some v) : kR P [.tmp s] e w v := Jp (bT h)
def eY {s u : Nat} {w : AI} {v1 v2 : AH} (h1 : bC (e s) = some v1) (h2 : bC (e u) = some v2) : kR P [.tmp s, .tmp u] e w (.tuple #[v1, v2]) := mQ (bT h1) (bT h2)
def aBt {s u r : Nat} {w : AI} {v1 v2 v3 : AH} (h1 : bC (e s) = some v1) (h2 : bC (e u) = some v2) (h3 : bC (e r) = some v3) : kR P [.tmp s, .tmp u, .tmp r] e w (.tuple #[v1, v2, v3]) := aAL (bT h1) (bT h2) (bT h3)
def eW {a b : Nat} {T : AJ} {l : AA} {w : AI} (h : bC (e a) = some (.pointer (some ⟨b, 0, none⟩))) (hs : rX P T = true) (hn : kU P T = some l.length) (hr : aK w b 0 l) :
  kR P [.cell a T] e w (.agg l.toArray) := by
 have h := bT h
 have hl := run_loadCells_list (P := P) w ⟨b, 0, none⟩ l hr.add
 simp [kR, vM, h, asAddr, loadVar, ay, Fx hs, vI hn, hl]
def gK {a b s : Nat} {T : AJ} {l : AA} {v : AH} {w : AI} (h : bC (e a) = some (.pointer (some ⟨b, 0, none⟩))) (hs : rX P T = true) (hn : kU P T = some l.length) (hr : aK w b 0 l) (h2 : bC (e s) = some v) :
  kR P [.cell a T, .tmp s] e w (.tuple #[.agg l.toArray, v]) := by
 have h := bT h
 have hl := run_loadCells_list (P := P) w ⟨b, 0, none⟩ l hr.add
 have h2 := bT h2
 simp [kR, vM, h, h2, asAddr, loadVar, ay, Fx hs, vI hn, hl]
def iU {Γ : dQ} {rs : List ResultVar} {R : AH → aF → Prop} {H' : aF} {v : AH} (hr : ∀ w, St Γ.w0 Γ.ms H w → kR Γ.P rs e w v)
  (hh : H'.Sublist H) (h : R v H') : rC Γ rs R e H := lC hr (fun _ hw => hw.sub hh) h
def aZ {Γ : dQ} {rs : List ResultVar} {R : AH → aF → Prop} {v : AH} (hr : ∀ w, St Γ.w0 Γ.ms H w → kR Γ.P rs e w v) (h : R v []) : rC Γ rs R e H := iU hr (du _) h
end
def spine {α : Type} : List α → Option (List α)
 | [] => some []
 | x :: r => match spine r with
  | some r' => some (x :: r')
  | none => none
def Uy {α : Type} : ∀ {l l' : List α}, spine l = some l' → l = l'
 | [], _, h => by cases h; rfl
 | x :: r, l', h => by
  simp only [spine] at h
  split at h
  ·rename_i r' hr
   cases h
   rw [Uy hr]
  ·cases h
def Su (off : Nat) : AA → Nat → AA → AA
 | [], _, l => l
 | v :: vs, j, l => Su off vs (j + 1) (l.set (off + j) v)
def Dn (place : Nat → Option (Nat × Nat)) (l : AA) : List (Nat × AH) → Option (List AH)
 | [] => spine l
 | (i, v) :: rest =>
  match place i, Ay v with
  | some (off, size), some vs => bif Nat.beq vs.length size && Nat.ble (off + vs.length) l.length then Dn place (Su off vs 0 l) rest else none
  | _, _ => none
def aDF (off : Nat) : ∀ (vs : AA) (j : Nat) (l : AA),
  (Su off vs j l).toArray = (vs.zipIdx j).foldl (fun (cs : Array AH) (c : AH × Nat) => cs.setIfInBounds (off + c.2) c.1) l.toArray
 | [], _, _ => rfl
 | v :: vs, j, l => by
  simp only [Su, List.zipIdx_cons, jb]
  rw [aDF off vs (j + 1) _]
  congr 1
  simp
def Mn {place : Nat → Option (Nat × Nat)} : ∀ {ps : List (Nat × AH)} {l l' : AA}, Dn place l ps = some l' → Instr.fill place l.toArray ps = some l'.toArray
 | [], l, l', h => by
  simp only [Dn] at h
  rw [Uy h]
  rfl
 | (i, v) :: rest, l, l', h => by
  simp only [Dn] at h
  split at h
  ·rename_i off size vs hp hv
   have hc := Ft hv
   by_cases hb : (Nat.beq vs.length size && Nat.ble (off + vs.length) l.length) = true
   ·rw [hb, cond_true] at h
    simp only [cq] at hb
    have h1 := da hb.1
    have h2 := ai hb.2
    have h3 := Mn h
    simp only [Instr.fill, hp, hc, jr]
    rw [ae (by simp [h1]; omega)]
    rw [← h3]
    congr 1
    rw [aDF]
    simp
   ·simp only [f2] at hb
    rw [hb, cond_false] at h
    cases h
  ·cases h
section
variable {Γ : dQ} {e : bB} {H : aF} {d : AD} {ty : AJ} {pos : String} {af : AG} {g : Option (Nat × Bool)}
def Er (e : bB) : List (Nat × AK) → Option (List (Nat × AH))
 | [] => some []
 | (i, x) :: r => match bC (ev e x), Er e r with
  | some v, some vs => some ((i, v) :: vs)
  | _, _ => none
def Od {e : bB} : ∀ {l : List (Nat × AK)} {vs : List (Nat × AH)}, Er e l = some vs → l.map (fun p => (p.1, ev e p.2)) = vs
 | [], _, h => by cases h; rfl
 | (i, x) :: r, vs, h => by
  simp only [Er] at h
  split at h
  ·rename_i v us h1 h2
   cases h
   simp only [cu, bT h1, Od h2]
  ·cases h
def mG (n : Nat) (z : AA) : AA := (List.range n).map (fun i => z.getD (i % z.length) default)
def F4 (n : Nat) (z : AA) : (Array.range n).map (z.toArray[· % z.toArray.size]!) = (mG n z).toArray := by
 apply Array.ext
 ·simp [mG]
 ·intro i h1 h2
  simp only [mG, Array.getElem_map, Array.getElem_range, List.getElem_toArray, List.getElem_map, List.getElem_range, jr, getElem!_def, dx, dd]
  cases z[i % z.length]? <;> rfl
def eQ {t el : AJ} {len n : Nat} {parts : List (Nat × AK)} {ps : List (Nat × AH)} {l : AA} {z : AA}
  (hu : rE Γ.P t = some (el, n)) (hp : Er e parts = some ps) (hsm : Nat.ble (len * n) 16777216 = true) (hpos : Nat.ble 1 (len * n) = true)
  (hz : tJ Γ.P el = some z) (hf : Dn (fun i => some (i * n, n)) (mG (len * n) z) ps = some l) :
  dZ Γ ⟨d, .buildSlice t len parts.toArray, ty, pos, af, g⟩ e H (fun u H' => ∃ b, u = .slice (some ⟨b, 0, none⟩) len len ∧ H' = (b, J l el) :: H) := by
 obtain ⟨h1, h2⟩ := wZ hu
 refine aLe h1 (ps := ps) ?_ h2 hsm hpos hz ?_
 ·have := Od hp
  simpa using this
 ·rw [F4]
  exact Mn hf
def Ho (P : AL) : List Field → Option (List (Nat × Nat))
 | [] => some []
 | f :: r => match kU P f.type, Ho P r with
  | some s, some ps => some ((f.offset, s) :: ps)
  | _, _ => none
def aFg (P : AL) (t : AJ) : Option (List (Nat × Nat)) :=
 match P.underlying t with
 | some (.struct ⟨fs⟩) => Ho P fs
 | _ => none
def aH5 {P : AL} : ∀ {fs : List Field} {ps : List (Nat × Nat)}, Ho P fs = some ps →
  ∀ {α : Type} (f : Array (Nat × Nat) → Sem α), eR P (fs.toArray.mapM (fun f => do pure (f.offset, ← sizeOf f.type)) >>= f) = eR P (f ps.toArray) := by
 intro fs
 have key : ∀ (fs : List Field) (ps : List (Nat × Nat)), Ho P fs = some ps → ∀ {α : Type} (f : List (Nat × Nat) → Sem α), eR P ((fs.mapM (fun f => (do pure (f.offset, ← sizeOf f.type) : Sem (Nat × Nat)))) >>= f) = eR P (f ps) := by
  intro fs
  induction fs with
  | nil => intro ps h α f; cases h; simp
  | cons x r ih =>
   intro ps h α f
   simp only [Ho] at h
   split at h
   ·rename_i s ps' h1 h2
    cases h
    simp only [List.mapM_cons, bind_assoc, uZ h1, pure_bind]
    rw [ih ps' h2]
   ·cases h
 intro ps h α f
 have h1 := key fs ps h (fun l => f l.toArray)
 rw [← h1]
 simp [List.mapM_toArray]
def rV {t : AJ} {parts : List (Nat × AK)} {ps : List (Nat × AH)} {l z : AA} {pl : List (Nat × Nat)}
  (hu : aFg Γ.P t = some pl) (hz : tJ Γ.P t = some z) (hp : Er e parts = some ps) (hf : Dn (fun i => pl[i]?) z ps = some l) :
  dT Γ.P e ⟨d, .build t parts.toArray, ty, pos, af, g⟩ = some (.agg l.toArray) := by
 refine jA ?_ U
 unfold aFg at hu
 split at hu
 ·rename_i fs h1
  have hpp := Od hp
  have hfl := Mn hf
  have hzz : ∀ {α : Type} (f : AH → Sem α), ∃ zv : AH, zv.cells = z.toArray ∧ eR Γ.P (zeroValue t >>= f) = eR Γ.P (f zv) := by
   intro α f
   unfold tJ at hz
   split at hz
   ·rename_i i hi
    split at hz
    ·rename_i zv hzv
     refine ⟨zv, Ft hz, ?_⟩
     simp [zeroValue, typeInfo, program, bind, Sem.bind, eR, hi, hzv, pure]
    ·cases hz
   ·cases hz
  simp only [execOp, Instr.build, bind_assoc]
  obtain ⟨zv, hzc, hzr⟩ := hzz (fun zero => underlying t >>= fun d => _)
  rw [hzr, mS h1]
  simp only [bind_assoc]
  rw [aH5 hu]
  have h9 : ((List.toArray parts).map fun (i, x) => (i, ev e x)).toList = ps := by simpa using hpp
  simp only [h9, hzc, dx, hfl]
  rfl
 ·cases hu
def aCC (P : AL) (t f : Nat) : AD :=
 match P.underlying t with
 | some (.struct ⟨fs⟩) => match fs[f]? with
  | some ⟨_, ft, o, _, _, _, _⟩ => match kU P ft with
   | some (_ + 1) => some o
   | _ => none
  | none => none
 | _ => none
def Du {t f o b off : Nat} {x : AK} (hu : aCC Γ.P t f = some o) (hx : bC (ev e x) = some (.pointer (some ⟨b, off, none⟩))) :
  dT Γ.P e ⟨d, .fieldAddr t x f, ty, pos, af, g⟩ = some (.pointer (some ⟨b, off + o, none⟩)) := by
 refine jA ?_ U
 have hx := bT hx
 unfold aCC at hu
 split at hu
 ·rename_i fs h1
  split at hu
  ·rename_i nm ft o' em tg pp bo h2
   split at hu
   ·rename_i k h3
    cases hu
    have h4 : (fs.toArray)[f]? = some ⟨nm, ft, o, em, tg, pp, bo⟩ := by simpa using h2
    simp only [execOp, Instr.fieldAt, bind_assoc, mS h1, h4, hx, Instr.sureAddr, qQ, fieldPlace, uZ h3]
    simp [xF, eR, pure, bind, Sem.bind]
   ·cases hu
  ·cases hu
 ·cases hu
def aDI (P : AL) (t f : Nat) : Option (Nat × Nat) :=
 match P.underlying t with
 | some (.struct ⟨fs⟩) => match fs[f]? with
  | some ⟨_, ft, o, _, _, _, _⟩ => some (ft, o)
  | none => none
 | _ => none
def B5 {t f ft o : Nat} {x : AK} {l : AA} {v u : AH} (hu : aDI Γ.P t f = some (ft, o)) (hs : wW Γ.P ft = true) (hx : bC (ev e x) = some (.agg ⟨l⟩)) (hv : l[o]? = some u) (hw : bC u = some v) :
  dT Γ.P e ⟨d, .field t x f, ty, pos, af, g⟩ = some v := by
 have hn := bT hw
 subst hn
 refine jA ?_ hw
 have hx := bT hx
 unfold aDI at hu
 split at hu
 ·rename_i fs h1
  split at hu
  ·rename_i nm ft' o' em tg pp bo h2
   cases hu
   have h4 : (fs.toArray)[f]? = some ⟨nm, ft, o, em, tg, pp, bo⟩ := by simpa using h2
   have h5 : ∀ {α : Type} (K : Bool → Sem α), eR Γ.P (isAgg ft >>= K) = eR Γ.P (K false) := by
    intro α K
    unfold wW at hs
    split at hs <;> try cases hs
    rename_i D hd1 hd2 hd
    simp only [isAgg, bind_assoc, mS hd]
    cases D <;> first | rfl | (exfalso; exact hd1 _ rfl) | (exfalso; exact hd2 _ _ rfl)
   simp only [execOp, Instr.field, bind_assoc, mS h1, h4, hx, asAgg, qQ, part, h5]
   have h6 : (Array.mk l)[o]? = some u := by simpa using hv
   simp [h6, eR, pure, bind, Sem.bind]
  ·cases hu
 ·cases hu
end
end Go.VV
namespace Go.VV
open Go
def bY {n : Int} (h1 : -9223372036854775808 ≤ n) (h2 : n ≤ 9223372036854775807) : IntKind.i64.wrap n = n := by
 simp [IntKind.wrap, IntKind.bits, IntKind.signed]; omega
def nQ (n : Int) : IntKind.u8.wrap n = n % 256 := by
 simp [IntKind.wrap, IntKind.bits, IntKind.signed]
def pR (n : Int) : IntKind.u16.wrap n = n % 65536 := by
 simp [IntKind.wrap, IntKind.bits, IntKind.signed]
def H5 (n : Int) : IntKind.u64.wrap n = n % 18446744073709551616 := by
 simp [IntKind.wrap, IntKind.bits, IntKind.signed]
def Ja {n : Int} (h1 : 0 ≤ n) (h2 : n < 256) : IntKind.u8.wrap n = n := by rw [nQ]; omega
def tW {n : Int} (h1 : 0 ≤ n) (h2 : n < 65536) : IntKind.u16.wrap n = n := by rw [pR]; omega
def wB {n : Int} (h1 : 0 ≤ n) (h2 : n < 18446744073709551616) : IntKind.u64.wrap n = n := by rw [H5]; omega
def eX {k : Nat} (h : (k : Int) < 9223372036854775807) : IntKind.i64.wrap ((k : Int) + 1) = ((k + 1 : Nat) : Int) := by
 rw [bY (by omega) (by omega)]; simp
def aQ (k : AM) (x y : Int) : Int := k.wrap (BitVec.ofInt k.bits x &&& BitVec.ofInt k.bits y).toNat
def bL (k : AM) (x y : Int) : Int := k.wrap (BitVec.ofInt k.bits x ||| BitVec.ofInt k.bits y).toNat
def mK (k : AM) (x y : Int) : Int := k.wrap (BitVec.ofInt k.bits x ^^^ BitVec.ofInt k.bits y).toNat
def lB (k : AM) (x y : Int) : Int := k.wrap (BitVec.ofInt k.bits x &&& ~~~BitVec.ofInt k.bits y).toNat
def shr (k : AM) (x y : Int) : Int := x.fdiv (2 ^ min y.toNat k.bits)
def shl (k : AM) (x y : Int) : Int := k.wrap (x * 2 ^ min y.toNat k.bits)
def eH {p : Int → Prop} (h : ∀ n : Fin 256, p (n.val : Int)) {c : Int} (h1 : 0 ≤ c) (h2 : c < 256) : p c := by
 have := h ⟨c.toNat, by omega⟩
 simp only at this
 rwa [d6 h1] at this
def Ns (w : AI) (k : AM) (a : AC) (l : AB) : Prop := 0 < l.length → ∃ b off, a = some ⟨b, off, none⟩ ∧ aK w b off (l.map (.int k))
def Ns.nil (w : AI) (k : AM) (a : AC) : Ns w k a [] := fun h => by simp at h
def Ns.row {w : AI} {k : AM} {a : AC} {l : AB} (h : Ns w k a l) {i : Nat} (hi : i < l.length) : ∃ b off, a = some ⟨b, off, none⟩ ∧ aK w b off (l.map (.int k)) := h (by omega)
def Ns.of {w : AI} {k : AM} {b off : Nat} {l : AB} (h : aK w b off (l.map (.int k))) : Ns w k (some ⟨b, off, none⟩) l := fun _ => ⟨b, off, rfl, h⟩
def Ns.later {w0 w : AI} {ms : AE} {H : aF} {k : AM} {a : AC} {l : AB} (h : Ns w0 k a l) (hm : ∀ p, a = some p → p.block ∉ ms) (hw : St w0 ms H w) : Ns w k a l := fun hl => by
 obtain ⟨b, off, rfl, hr⟩ := h hl
 exact ⟨b, off, U, cG hr (hm _ U) w hw⟩
def Ns.later0 {w0 w : AI} {H : aF} {k : AM} {a : AC} {l : AB} (h : Ns w0 k a l) (hw : St w0 [] H w) : Ns w k a l := h.later (by simp) hw
def aK.int {w : AI} {k : AM} {b off : Nat} {l : AB} (h : aK w b off (l.map (.int k))) {i : Nat} (hi : i < l.length) : w.cell? ⟨b, off + i, none⟩ = some (.int k (l.getD i 0)) :=
 h i _ (by simp [hi])
def kE (k : AM) (l : AB) : fL (l.map (.int k)) = true := by simp [fL, Value.oneCell']
def aGA {l l' : AA} (h : fL l = true) (hs : ∀ x ∈ l', x ∈ l) : fL l' = true := List.all_eq_true.2 fun x hx => List.all_eq_true.1 h x (hs x hx)
def aMu (k : AM) (l : AB) (i n : Nat) : fL (((l.map (Value.int k)).drop i).take n) = true := aGA (kE k l) fun _ hx => di (dh hx)
def bE (l : AB) : Prop := ∀ x ∈ l, 0 ≤ x ∧ x < 256
def bE.get {l : AB} (h : bE l) (i : Nat) : 0 ≤ l.getD i 0 ∧ l.getD i 0 < 256 := by
 by_cases hi : i < l.length
 ·rw [dd, am hi]; exact h _ (fh hi)
 ·rw [dd, ea (by omega)]; simp
section
variable {P : AL} {e : bB} {d : AD} {ty t u : AJ} {pos : String} {af : AG} {g : Option (Nat × Bool)} {x y : AK} {k : AM} {a b : Int}
def tU (hx : bC (ev e x) = some (.int k a)) (hy : bC (ev e y) = some (.int k b)) (hb : b ≠ 0) :
  dT P e ⟨d, .binOp .rem t x y u, ty, pos, af, g⟩ = some (.int k (a.tmod b)) := by
 refine jA ?_ U
 simp [execOp, eqGuard, bT hx, bT hy, binOp, Op.intDiv, hb, eR, bind, Sem.bind, pure]
def iV {k2 : AM} (hx : bC (ev e x) = some (.int k a)) (hy : bC (ev e y) = some (.int k2 b)) (hb : 0 ≤ b) :
  dT P e ⟨d, .binOp .shr t x y u, ty, pos, af, g⟩ = some (.int k (shr k a b)) := by
 refine jA ?_ U
 have : ¬ b < 0 := by omega
 simp [execOp, eqGuard, bT hx, bT hy, binOp, Op.shift, this, eR, bind, Sem.bind, pure, shr]
def iM {k2 : AM} (hx : bC (ev e x) = some (.int k a)) (hy : bC (ev e y) = some (.int k2 b)) (hb : 0 ≤ b) :
  dT P e ⟨d, .binOp .shl t x y u, ty, pos, af, g⟩ = some (.int k (shl k a b)) := by
 refine jA ?_ U
 have : ¬ b < 0 := by omega
 simp [execOp, eqGuard, bT hx, bT hy, binOp, Op.shift, this, eR, bind, Sem.bind, pure, shl]
def Sm (P : AL) (t : AJ) : Bool := match P.underlying t with
 | some (.slice _) => true
 | _ => false
def aDs {a : AC} {n c : Nat} (hx : bC (ev e x) = some (.slice a n c)) (hu : Sm P t = true) :
  dT P e ⟨d, .call ⟨.builtin .len, #[x], #[t]⟩, ty, pos, af, g⟩ = some (.int .i64 n) := by
 refine jA ?_ U
 have hx := bT hx
 unfold Sm at hu
 split at hu
 ·rename_i el h1
  simp only [execOp, resolve, dj, cu, dk, hx, qQ, invoke, builtin, Builtin.len_, bind_assoc, dx, fj, mS h1]
  rfl
 ·cases hu
def aO0 {s : ByteArray} (hx : bC (ev e x) = some (.string s)) (hu : P.underlying t = some .string) :
  dT P e ⟨d, .call ⟨.builtin .len, #[x], #[t]⟩, ty, pos, af, g⟩ = some (.int .i64 s.size) := by
 refine jA ?_ U
 have hx := bT hx
 simp only [execOp, resolve, dj, cu, dk, hx, qQ, invoke, builtin, Builtin.len_, bind_assoc, dx, fj, mS hu]
 rfl
def vD {k2 : AM} {ts : Array AJ} (hx : bC (ev e x) = some (.int k a)) (hy : bC (ev e y) = some (.int k2 b)) :
  dT P e ⟨d, .call ⟨.builtin .min, #[x, y], ts⟩, ty, pos, af, g⟩ = some (.int k (min a b)) := by
 refine jA ?_ U
 have hx := bT hx
 have hy := bT hy
 have hm : (if b < a then b else a) = min a b := by omega
 simp only [execOp, resolve, dj, cu, dk, hx, hy, qQ, invoke, builtin, Builtin.min_, bind_assoc, List.foldlM_cons, List.foldlM_nil, Builtin.min2, hm]
 rfl
def Cz {k2 : AM} {ts : Array AJ} (hx : bC (ev e x) = some (.int k a)) (hy : bC (ev e y) = some (.int k2 b)) :
  dT P e ⟨d, .call ⟨.builtin .max, #[x, y], ts⟩, ty, pos, af, g⟩ = some (.int k (max a b)) := by
 refine jA ?_ U
 have hx := bT hx
 have hy := bT hy
 have hm : (if b > a then b else a) = max a b := by omega
 simp only [execOp, resolve, dj, cu, dk, hx, hy, qQ, invoke, builtin, Builtin.max_, bind_assoc, List.foldlM_cons, List.foldlM_nil, Builtin.max2, hm]
 rfl
end
section
variable {P : AL} {Γ : dQ} {k : fT} {e : bB} {H F : aF} {ops rest : List Oper} {d : AD} {op : Op} {t : AJ} {pos : String} {af : AG} {g : Option (Nat × Bool)}
 {need : AE} {pl : lH} {i : Nat}
def gO {b : Bool} (c : Bool) (hl : dT Γ.P e ⟨d, op, t, pos, af, g⟩ = some (.bool b)) (hg : eZ ops e ⟨d, op, t, pos, af, g⟩ = true) (hd : eS Γ.n d = true) (hb : b = c)
  (h : L1 Γ ops rest k (e.put d (.bool c)) H) : L1 Γ ops (⟨d, op, t, pos, af, g⟩ :: rest) k e H := by subst hb; exact Kv hl hg hd h
def Vz {b : Bool} {S : AI → Prop} (c : Bool) (ho : ops[i]? = some ⟨d, op, t, pos, af, g⟩) (hl : dT Γ.P e ⟨d, op, t, pos, af, g⟩ = some (.bool b)) (hg : eZ ops e ⟨d, op, t, pos, af, g⟩ = true) (hd : eS Γ.n d = true) (hb : b = c)
  (h : L2 Γ ops S need pl k (e.put d (.bool c)) H) : L2 Γ ops S need (.step true i pl) k e H := by subst hb; exact Ds ho hl rfl hg hd h
def pE {c : AK} {x y : Code} {t : Bool} (b : Bool) (hc : ev e c = .bool t) (hb : t = b) (h : C Γ (if b then x else y) k e H) : C Γ (.cond c x y) k e H := by
 subst hb
 exact Sv hc (fun ht => by rw [ht] at h; exact h) (fun ht => by rw [ht] at h; exact h)
def aNB {v u : AH} (hl : dT Γ.P e ⟨d, op, t, pos, af, g⟩ = some u) (hg : eZ ops e ⟨d, op, t, pos, af, g⟩ = true) (hd : eS Γ.n d = true) (hv : u = v)
  (h : L1 Γ ops rest k (e.put d v) H) : L1 Γ ops (⟨d, op, t, pos, af, g⟩ :: rest) k e H := by subst hv; exact Kv hl hg hd h
def aOY {v u : AH} {S : AI → Prop} (ho : ops[i]? = some ⟨d, op, t, pos, af, g⟩) (hl : dT Γ.P e ⟨d, op, t, pos, af, g⟩ = some u) (hu : Cr u = true) (hg : eZ ops e ⟨d, op, t, pos, af, g⟩ = true) (hd : eS Γ.n d = true) (hv : u = v)
  (h : L2 Γ ops S need pl k (e.put d v) H) : L2 Γ ops S need (.step true i pl) k e H := by subst hv; exact Ds ho hl hu hg hd h
def Mf {x : AK} {v : AH} (hx : ev e x = v) (hg : eZ ops e ⟨d, .move x, t, pos, af, g⟩ = true) (hd : eS Γ.n d = true)
  (h : L1 Γ ops rest k (e.put d v) H) : L1 Γ ops (⟨d, .move x, t, pos, af, g⟩ :: rest) k e H :=
 Qf (K := fun u H' => u = v ∧ H' = H) hg hd (fun _ hw => gX (by simp only [execOp]; rw [hx]; rfl) ⟨H, hw, rfl, rfl⟩) (by rintro _ _ ⟨rfl, rfl⟩; exact h)
def wE {x : AK} {v : AH} (hx : ev e x = v) (hg : eZ ops e ⟨d, .assign x, t, pos, af, g⟩ = true) (hd : eS Γ.n d = true)
  (h : L1 Γ ops rest k (e.put d v) H) : L1 Γ ops (⟨d, .assign x, t, pos, af, g⟩ :: rest) k e H :=
 Qf (K := fun u H' => u = v ∧ H' = H) hg hd (fun _ hw => gX (by simp only [execOp]; rw [hx]; rfl) ⟨H, hw, rfl, rfl⟩) (by rintro _ _ ⟨rfl, rfl⟩; exact h)
def aMS {S : AI → Prop} {x : AK} {v : AH} (ho : ops[i]? = some ⟨d, .move x, t, pos, af, g⟩) (hx : ev e x = v) (hg : eZ ops e ⟨d, .move x, t, pos, af, g⟩ = true) (hd : eS Γ.n d = true)
  (h : L2 Γ ops S need pl k (e.put d v) H) : L2 Γ ops S need (.step true i pl) k e H :=
 Jq ho hg hd (fun w _ => by simp only [execOp]; rw [hx]; rfl) h
def aB5 {S : AI → Prop} {x : AK} {v : AH} (ho : ops[i]? = some ⟨d, .assign x, t, pos, af, g⟩) (hx : ev e x = v) (hg : eZ ops e ⟨d, .assign x, t, pos, af, g⟩ = true) (hd : eS Γ.n d = true)
  (h : L2 Γ ops S need pl k (e.put d v) H) : L2 Γ ops S need (.step true i pl) k e H :=
 Jq ho hg hd (fun w _ => by simp only [execOp]; rw [hx]; rfl) h
def dG {f : Nat} {l : AF} {ts : Array AJ} {vs : AA} {u : AH} (hc : gR Γ.P f = true) (hv : lI e l = some vs)
  (hf : ∀ w, St Γ.w0 Γ.ms H w → aG Γ.P f vs w [] (fun v H => H = [] ∧ v = u)) :
  dZ Γ ⟨d, .call ⟨.value (.func f), l.toArray, ts⟩, t, pos, af, g⟩ e H (fun v H' => v = u ∧ H' = H) := fun w hw => by
 refine tX (cQ hc hv hf w hw) ?_
 rintro v w' ⟨H', h1, H2, ⟨h2, h3⟩, h4⟩
 subst h2 h4
 exact ⟨_, h1, h3, U⟩
def If (P : AL) (el c : Nat) : Bool := match P.info? el with
 | some i => Nat.ble (c * i.bytes) 140737488355328 && Nat.blt 0 i.bytes
 | none => false
def aIz {P : AL} {el c : Nat} (h : If P el c = true) : ∃ i, P.info? el = some i ∧ c * i.bytes ≤ 140737488355328 ∧ 0 < i.bytes := by
 unfold If at h
 split at h
 ·rename_i i hi
  simp only [cq] at h
  exact ⟨i, hi, ai h.1, ef (ii) (ai h.2)⟩
 ·cases h
def aHI {tt el n s : Nat} {x y : AK} {k1 k2 : AM} {a b : Int} {z : AA} {c : Nat} (hx : bC (ev e x) = some (.int k1 a)) (hy : bC (ev e y) = some (.int k2 b)) (ha : a = (n : Int)) (hb : b = (c : Int)) (hnc : n ≤ c)
  (hu : rE Γ.P tt = some (el, s)) (hz : tJ Γ.P el = some z) (hpos : Nat.blt 0 (c * s) = true) (hby : If Γ.P el c = true) :
  dZ Γ ⟨d, .makeSlice tt x y, t, pos, af, g⟩ e H (fun u H' => ∃ b, u = .slice (some ⟨b, 0, none⟩) n c ∧ H' = (b, J (mG (c * s) z) el) :: H) := by
 intro w hw
 obtain ⟨h1, h2⟩ := wZ hu
 have hx := bT hx
 have hy := bT hy
 obtain ⟨zv, hzv, hzc⟩ := Pm hz w
 obtain ⟨i, hi, hb2, hb3⟩ := aIz hby
 have hpos : 0 < c * s := ef (ii) (ai hpos)
 subst ha hb
 have hc : c ≤ 140737488355328 := ij (Nat.le_mul_of_pos_right c hb3) hb2
 have hw1 : IntKind.i64.wrap (n : Int) = n := bY (by omega) (by omega)
 have hw2 : IntKind.i64.wrap (c : Int) = c := bY (by omega) (by omega)
 have key : (Instr.makeSlice tt (.int k1 n) (.int k2 c)).run Γ.P w = .ok (.slice (some ⟨w.heap.size, 0, none⟩) n c) (w.alloc (J (mG (c * s) z) el)) := by
  unfold Instr.makeSlice
  have e1 : (typeInfo el).run Γ.P w = .ok i w := by simp [typeInfo, hi]
  have e2 : ((i.bytes : Int) * (c : Int)) ≤ 140737488355328 := by
   rw [← ka, gk]; exact Int.ofNat_le.2 hb2
  have hbad : (decide ((c : Int) < 0) || decide ((i.bytes : Int) * (c : Int) > 281474976710656) || decide ((n : Int) < 0) || decide ((n : Int) > c)) = false := by
   simp only [Bool.or_eq_false_iff, ah]
   refine ⟨⟨⟨by omega, by omega⟩, by omega⟩, by omega⟩
  have hcz : ¬ c * s = 0 := by omega
  simp only [ay, run_underlying h1, au, asInt, asIntOf, ca, e1, hw1, hw2]
  have hpow : ((2 : Int) ^ 48) = 281474976710656 := by decide
  simp only [hpow, hbad, ep, if_false, ay, run_askRoom, vI h2, au, db, hcz, hzv, ca, hzc, F4]
  rfl
 refine gX (v := .slice (some ⟨w.heap.size, 0, none⟩) n c) (w' := w.alloc (J (mG (c * s) z) el)) ?_ ⟨_, hw.alloc _, _, U, U⟩
 simp only [execOp, hx, hy, ay, key, au, ca]
def Jt (G : aF) (k : AM) (a : AC) (l : AB) : Prop :=
 0 < l.length → ∃ b off, a = some ⟨b, off, none⟩ ∧ ∀ w : AI, (∀ x ∈ G, w.heap[x.1]? = some x.2) → aK w b off (l.map (.int k))
def Jt.nil (G : aF) (k : AM) (a : AC) : Jt G k a [] := fun h => by simp at h
def Jt.row {G : aF} {k : AM} {a : AC} {l : AB} (h : Jt G k a l) {i : Nat} (hi : i < l.length) :
  ∃ b off, a = some ⟨b, off, none⟩ ∧ ∀ w : AI, (∀ x ∈ G, w.heap[x.1]? = some x.2) → aK w b off (l.map (.int k)) := h (by omega)
def aNN {G : aF} {w0 : AI} {ms : AE} {k : AM} {b off : Nat} {l : AB} (hr : ∀ w : AI, (∀ x ∈ G, w.heap[x.1]? = some x.2) → aK w b off (l.map (.int k))) (hs : ∀ x ∈ G, x ∈ H) {i : Nat} (hi : i < l.length) :
  ∀ w, St w0 ms H w → w.cell? ⟨b, off + i, none⟩ = some (.int k (l.getD i 0)) := fun w hw => (hr w fun x hx => hw.holds x (hs x hx)).int hi
def Aj (k : AM) (l : AB) (v : AH) (H : aF) : Prop := ∃ a c, v = .slice a l.length c ∧ l.length ≤ c ∧ Jt H k a l
def Aj.nil {k : AM} : Aj k [] (.slice none 0 0) [] := ⟨none, 0, rfl, bi _, .nil _ _ _⟩
def Aj.of_row {k : AM} {l : AB} {b n c T : Nat} {L : AA} {fr : Nat × Nat} (hn : n = l.length) (hc : l.length ≤ c) (hl : ∀ (j : Nat) (v : AH), (l.map (Value.int k))[j]? = some v → L[j]? = some v) :
  Aj k l (.slice (some ⟨b, 0, none⟩) n c) [(b, .cells L.toArray T fr)] := by
 subst hn
 refine ⟨_, c, U, hc, fun _ => ⟨b, 0, U, fun w hw => ?_⟩⟩
 exact aK.of_blk (cs := L.toArray) (t := T) (fr := fr) (hw _ (.head _)) (fun j v hv => by simpa using hl j v hv)
def aG7 (n : Nat) (z : AH) : mG n [z] = List.replicate n z := by
 apply jx
 ·simp [mG]
 ·intro i h1 h2
  simp [mG, Nat.mod_one]
end
def aOQ {P : AL} {t : AJ} {a b : Bool} (hu : P.underlying t = some .bool) : eR P (Op.equal t (.bool a) (.bool b)) = some (a == b) := by
 obtain ⟨n, hn⟩ : ∃ n, Op.maxDepth = n + 1 := ⟨9999, rfl⟩
 unfold Op.equal
 rw [hn]
 simp only [Op.equalIn]
 rw [mS hu]
 rfl
def aMz {α β : Type} {P : AL} {s : Sem α} {f : α → Sem β} {a : α} (h : eR P s = some a) : eR P (s >>= f) = eR P (f a) := by
 induction s with
 | pure b => simp only [eR] at h; cases h; rfl
 | program k ih => simp only [eR] at h; exact ih P h
 | _ => simp [eR] at h
section
variable {P : AL} {e : bB} {d : AD} {x y : AK} {t ty : AJ} {u : AJ} {pos : String} {af : AG} {g : Option (Nat × Bool)} {a b : Bool}
def Qo (hx : bC (ev e x) = some (.bool a)) (hy : bC (ev e y) = some (.bool b)) (hu : P.underlying t = some .bool) :
  dT P e ⟨d, .binOp .eql t x y u, ty, pos, af, g⟩ = some (.bool (a == b)) := by
 refine jA ?_ U
 have hx := bT hx
 have hy := bT hy
 have key := aOQ (a := a) (b := b) hu
 generalize hE : Op.equal t (.bool a) (.bool b) = E at key
 simp only [execOp, hx, hy]
 unfold eqGuard binOp
 simp only [hE]
 simp only [Bool.not_true, ep, if_false, pure_bind, bind_assoc]
 exact (aMz key).trans U
end
def Sl {Γ : dQ} {k : fT} {e : bB} {L : aF} {x y : Code} (M : AE) (vs : List (Nat × AH))
  (h1 : C Γ x ⟨fun e' L' => nW e' vs ∧ jJ M e' e ∧ (∀ w, St Γ.w0 Γ.ms L' w → St Γ.w0 Γ.ms L w), k.R, k.X⟩ e L)
  (h2 : ∀ u, C Γ y k (mix M vs u e) L) : C Γ (.seq x y) k e L :=
 rR (σ := Unit) M (fun _ => vs) (fun _ => L) (fun _ => True) (aCj h1 (by rintro (_ | _ | j) e' L' h <;> first | exact ⟨(), trivial, h.1, h.2.1, h.2.2⟩ | exact h)) (fun _ u _ => h2 u)
def jJ.keep {M M' : AE} {vs : List (Nat × AH)} {x e e0 : bB} (hs : (M'.all (fun t => M.any (Nat.beq t)) && vs.all (fun p => M.any (Nat.beq p.1))) = true) (h : jJ M e e0) : jJ M (VV.mix M' vs x e) e0 := by
 simp only [cq, List.all_eq_true] at hs
 intro t ht
 unfold VV.mix
 cases hq : vs.find? (fun p => Nat.beq p.1 t) with
 | some p =>
  exfalso
  have h1 := ju hq
  have h2 := hs.2 p h1
  have h3 : Nat.beq p.1 t = true := by have := List.find?_some hq; simpa using this
  rw [da h3, ht] at h2
  cases h2
 | none =>
  cases hm : M'.any (Nat.beq t) with
  | false => exact h t ht
  | true =>
   exfalso
   obtain ⟨u, hu, hb⟩ := List.any_eq_true.1 hm
   have h2 := hs.1 u hu
   rw [← da hb, ht] at h2
   cases h2
def uV {Γ : dQ} {k : fT} {e : bB} {L : aF} {σ : Type} {c : Code} (M : AE) (vs : σ → List (Nat × AH)) (J : σ → Prop) (μ : σ → Nat) (s0 : σ)
  (h0 : J s0) (hv : nW e (vs s0))
  (round : ∀ s x, J s → C Γ c ⟨fun e' L' => ∃ s', J s' ∧ μ s' < μ s ∧ nW e' (vs s') ∧ jJ M e' e ∧ (∀ w, St Γ.w0 Γ.ms L' w → St Γ.w0 Γ.ms L w), k.R, k.X⟩ (mix M (vs s) x e) L) :
  C Γ (.loop c) k e L := dV M vs (fun _ => L) J μ s0 h0 hv (fun _ h => h) round
def aQI {P : AL} {e : bB} {f : Nat} {x : AK} {A B : Array AH} {l : AF} {ts : Array AJ} {d : AD} {t : AJ} {pos : String} {af : AG} {g : Option (Nat × Bool)}
  (hx : ev e x = .func (.func f) A B) (hc : gR P f = true) (w : AI) :
  (execOp (ev e) ⟨d, .call ⟨.value x, l.toArray, ts⟩, t, pos, af, g⟩).run P w = .ok (.enter f (A ++ (l.map (ev e)).toArray ++ B)) w := by
 unfold gR at hc
 split at hc
 ·rename_i fn hf
  simp only [cq, gb] at hc
  obtain ⟨h1, h2⟩ := hc
  have hs : (program : Sem AL) = .program .pure := rfl
  have h3 : ¬ fn.name = "runtime.NumGoroutine" := by simpa using h1
  have h4 : ¬ fn.body = none := by
   intro hx; rw [hx] at h2; cases h2
  simp [execOp, resolve, Deferred.ofValue, hx, invoke, callFunc, bind, Sem.bind, Sem.run, hf, h3, h4, pure, hs]
 ·cases hc
section
variable {Γ : dQ} {e : bB} {H F G : aF} {d : AD} {t : AJ} {pos : String} {af : AG} {g : Option (Nat × Bool)} {f : Nat} {x : AK} {l : AF} {ts : Array AJ}
def aBn {A B : AA} {vs : AA} (ms2 : AE) (hx : bC (ev e x) = some (.func (.func f) A.toArray B.toArray)) (hc : gR Γ.P f = true) (hv : lI e l = some vs) {R : AH → aF → Prop}
  (hms : ∀ b ∈ ms2, ∃ o, (b, o) ∈ F) (hf : ∀ w, St Γ.w0 Γ.ms (F ++ G) w → aG Γ.P f (A ++ vs ++ B) w ms2 R) :
  dZ Γ ⟨d, .call ⟨.value x, l.toArray, ts⟩, t, pos, af, g⟩ e (F ++ G) (fun v H2 => ∃ H', R v H' ∧ H2 = H' ++ G) := fun w hw => by
 refine F3 (aQI (bT hx) hc w) ?_
 have : A.toArray ++ (l.map (ev e)).toArray ++ B.toArray = (A ++ vs ++ B).toArray := by
  rw [Cd hv]
  simp
 rw [this]
 refine Calls.mono (hf w hw) ?_
 rintro ex w' ⟨v, H', rfl, h1, h2⟩
 exact ⟨v, U, _, hw.call hms h1, H', h2, U⟩
def aKc {A B : AA} {vs : AA} (hx : bC (ev e x) = some (.func (.func f) A.toArray B.toArray)) (hc : gR Γ.P f = true) (hv : lI e l = some vs) {R : AH → aF → Prop}
  (hf : ∀ w, St Γ.w0 Γ.ms H w → aG Γ.P f (A ++ vs ++ B) w [] R) :
  dZ Γ ⟨d, .call ⟨.value x, l.toArray, ts⟩, t, pos, af, g⟩ e H (fun v H2 => ∃ H', R v H' ∧ H2 = H' ++ H) := aBn (F := []) [] hx hc hv (by simp) hf
def Iy {A B : AA} {vs : AA} {u : AH} (hx : bC (ev e x) = some (.func (.func f) A.toArray B.toArray)) (hc : gR Γ.P f = true) (hv : lI e l = some vs)
  (hf : ∀ w, St Γ.w0 Γ.ms H w → aG Γ.P f (A ++ vs ++ B) w [] (fun v H' => H' = [] ∧ v = u)) :
  dZ Γ ⟨d, .call ⟨.value x, l.toArray, ts⟩, t, pos, af, g⟩ e H (fun v H' => v = u ∧ H' = H) := fun w hw => by
 refine tX (aKc hx hc hv hf w hw) ?_
 rintro v w' ⟨H', h1, H2, ⟨h2, h3⟩, h4⟩
 subst h2 h4
 exact ⟨_, h1, h3, U⟩
end
def St.lent {w : AI} {F : aF} (hn : (F.map (·.1)).Nodup) (hF : ∀ x ∈ F, w.heap[x.1]? = some x.2) : St w (F.map (·.1)) F w :=
 ⟨rfl, rfl, rfl, bi _, fun _ _ _ => rfl, hn, fun x hx => .inl (List.mem_map.2 ⟨x, hx, rfl⟩), hF⟩
def St.lent1 {w : AI} {b : Nat} {o : Obj} (h : w.heap[b]? = some o) : St w [b] [(b, o)] w := St.lent (F := [(b, o)]) (by simp) (by simpa using h)
section
variable {α : Type} {c : α → AA} {s : Nat}
def aN (c : α → AA) (l : List α) : AA := l.flatMap c
def xS (x : α) (l : List α) : aN c (x :: l) = c x ++ aN c l := rfl
def vJ (a b : List α) : aN c (a ++ b) = aN c a ++ aN c b := by simp [aN]
def gM (hc : ∀ x, (c x).length = s) (l : List α) : (aN c l).length = l.length * s := by
 induction l with
 | nil => simp [aN]
 | cons x l ih => rw [xS, ei, ih, hc, iz, jk, Nat.one_mul, il]
def zX (X Y Z y : AA) (h : Y.length = y.length) : aV (X ++ (Y ++ Z)) X.length y = X ++ (y ++ Z) := by
 unfold aV
 have h1 : (X ++ (Y ++ Z)).take X.length = X := by simp
 have h2 : (X ++ (Y ++ Z)).drop (X.length + y.length) = Z := by
  rw [← h, ← de]
  have : X.length + Y.length = (X ++ Y).length := by simp
  rw [this]; simp
 rw [h1, h2, de]
def Vi (hc : ∀ x, (c x).length = s) (A B : List α) (x y : α) (sp : AA) : aV (aN c (A ++ x :: B) ++ sp) (0 + A.length * s) (c y) = aN c (A ++ y :: B) ++ sp := by
 have := zX (aN c A) (c x) (aN c B ++ sp) (c y) (by rw [hc, hc])
 rw [gM hc] at this
 simpa [vJ, xS, de] using this
def aNz (hc : ∀ x, (c x).length = s) (A B : List α) (x y z : α) (sp : AA) : aV (aN c ((A ++ [x]) ++ y :: B) ++ sp) (0 + (A ++ [x]).length * s) (c z) = aN c (A ++ x :: z :: B) ++ sp := by
 rw [Vi hc (A ++ [x]) B y z sp, de]; rfl
def T5 (hc : ∀ x, (c x).length = s) (A B : List α) (x y : α) (sp : AA) : 0 + A.length * s + (c y).length ≤ (aN c (A ++ x :: B) ++ sp).length := by
 rw [ei, vJ, xS, ei, ei, gM hc, hc, hc]; omega
def aK.elem {w : AI} {b off : Nat} {A B : List α} {x : α} {sp : AA} (hc : ∀ x, (c x).length = s) (h : aK w b off (aN c (A ++ x :: B) ++ sp)) : aK w b (off + A.length * s) (c x) := by
 intro j v hv
 have hj : j < (c x).length := by
  rcases dt j (c x).length with h1 | h1
  ·exact h1
  ·rw [ea h1] at hv; cases hv
 have := h (A.length * s + j) v (by
  rw [vJ, xS, ← gM hc A, de, er (Nat.le_add_right _ _), gn, de, dp hj]
  exact hv)
 rw [eh]; exact this
def aK.elem2 {w : AI} {b off : Nat} {A B : List α} {x y : α} {sp : AA} (hc : ∀ x, (c x).length = s) (h : aK w b off (aN c ((A ++ [x]) ++ y :: B) ++ sp)) : aK w b (off + A.length * s) (c x) := by
 rw [de] at h
 exact aK.elem hc h
def H4 {l : List α} (h : 0 < l.length) : ∃ A a, l = A ++ [a] := by
 have hn : l ≠ [] := by intro h0; subst h0; simp at h
 exact ⟨l.dropLast, l.getLast hn, (List.dropLast_concat_getLast hn).symm⟩
def Mv {A : List α} {x : α} (h : A.length < 1000000000) : IntKind.i64.wrap (((A ++ [x]).length : Int) - 1) = (A.length : Int) := by
 rw [ei, az, bY (by omega) (by omega)]; omega
def Im {l : List α} {j : Nat} (hj : j < l.length) : l = l.take j ++ l[j] :: l.drop (j + 1) := by
 rw [List.getElem_cons_drop, dz]
def aK.nth {w : AI} {b off : Nat} {l : List α} (hc : ∀ x, (c x).length = s) (h : aK w b off (aN c l)) {j : Nat} (hj : j < l.length) : aK w b (off + j * s) (c l[j]) := by
 have h' : aK w b off (aN c (l.take j ++ l[j] :: l.drop (j + 1)) ++ []) := by rw [← Im hj, aw]; exact h
 have := aK.elem hc h'
 rwa [f0, fv (by omega)] at this
def aK.nth' {w : AI} {b off : Nat} {l : List α} {x : α} (hc : ∀ x, (c x).length = s) (h : aK w b off (aN c l)) {j : Nat} (hj : l[j]? = some x) : aK w b (off + j * s) (c x) := by
 obtain ⟨h1, h2⟩ := List.getElem?_eq_some_iff.1 hj
 have := aK.nth hc h h1
 rwa [h2] at this
def aK.left {w : AI} {b off : Nat} {l r : AA} (h : aK w b off (l ++ r)) : aK w b off l := fun j v hv => h j v (by
 have hj : j < l.length := by
  rcases dt j l.length with h1 | h1
  ·exact h1
  ·rw [ea h1] at hv; cases hv
 rw [dp hj]; exact hv)
def iY (w : AI) (c : α → AA) (a : AC) (l : List α) : Prop := 0 < l.length → ∃ b off, a = some ⟨b, off, none⟩ ∧ aK w b off (aN c l)
def iY.nil (w : AI) (c : α → AA) (a : AC) : iY w c a [] := fun h => by simp at h
def iY.row {w : AI} {a : AC} {l : List α} (h : iY w c a l) {i : Nat} (hi : i < l.length) : ∃ b off, a = some ⟨b, off, none⟩ ∧ aK w b off (aN c l) := h (by omega)
def iY.later0 {w0 w : AI} {H : aF} {a : AC} {l : List α} (h : iY w0 c a l) (hw : St w0 [] H w) : iY w c a l := fun hl => by
 obtain ⟨b, off, ha, hr⟩ := h hl
 exact ⟨b, off, ha, cG hr (by simp) w hw⟩
def Yk (G : aF) (c : α → AA) (a : AC) (l : List α) : Prop :=
 0 < l.length → ∃ b off, a = some ⟨b, off, none⟩ ∧ ∀ w : AI, (∀ x ∈ G, w.heap[x.1]? = some x.2) → aK w b off (aN c l)
def Yk.els {G H : aF} {a : AC} {l : List α} {w0 w : AI} {ms : AE} (h : Yk G c a l) (hw : St w0 ms H w) (hs : ∀ x ∈ G, x ∈ H) : iY w c a l := fun hl => by
 obtain ⟨b, off, ha, hr⟩ := h hl
 exact ⟨b, off, ha, hr w fun x hx => hw.holds x (hs x hx)⟩
def bM.gives {T n : Nat} {v : AH} {G : aF} {l : List α} (h : bM T s v n (aN c l) G) (hc : ∀ x, (c x).length = s) (hs : 0 < s) : ∃ a cp, v = .slice a n cp ∧ l.length = n ∧ n ≤ cp ∧ Yk G c a l := by
 have hl := h.len
 rw [gM hc] at hl
 have hn : l.length = n := jp hs hl
 generalize hx : aN c l = xs at h
 cases h with
 | nil => exact ⟨none, 0, rfl, hn, bi _, fun h0 => by omega⟩
 | row b _ cap _ sp h1 h2 h3 h4 =>
  refine ⟨_, cap, U, hn, h4, fun _ => ⟨b, 0, U, fun w hw => ?_⟩⟩
  have := aK.all (w := w) (b := b) (hw _ (.head _))
  rw [← hx] at this
  exact this.left
end
def Ex {P : AL} {e : bB} {d : AD} {ty : AJ} {pos : String} {af : AG} {g : Option (Nat × Bool)} {t el n s : Nat} {parts : List (Nat × AK)} {ps : List (Nat × AH)} {l z : AA}
  (hu : wA P t = some (n, el, s)) (hz : tJ P t = some z) (hp : Er e parts = some ps) (hf : Dn (fun i => some (i * s, s)) z ps = some l) :
  dT P e ⟨d, .build t parts.toArray, ty, pos, af, g⟩ = some (.agg l.toArray) := by
 refine jA ?_ U
 obtain ⟨h1, h2⟩ := Iz hu
 have hpp := Od hp
 have hfl := Mn hf
 have hzz : ∀ {α : Type} (f : AH → Sem α), ∃ zv : AH, zv.cells = z.toArray ∧ eR P (zeroValue t >>= f) = eR P (f zv) := by
  intro α f
  unfold tJ at hz
  split at hz
  ·rename_i i hi
   split at hz
   ·rename_i zv hzv
    refine ⟨zv, Ft hz, ?_⟩
    simp [zeroValue, typeInfo, program, bind, Sem.bind, eR, hi, hzv, pure]
   ·cases hz
  ·cases hz
 simp only [execOp, Instr.build, bind_assoc]
 obtain ⟨zv, hzc, hzr⟩ := hzz (fun zero => underlying t >>= fun d => _)
 rw [hzr, mS h1]
 simp only [bind_assoc]
 rw [uZ h2]
 have h9 : ((List.toArray parts).map fun (i, x) => (i, ev e x)).toList = ps := by simpa using hpp
 simp only [h9, hzc, hfl]
 rfl
def Kd {Γ : dQ} {e : bB} {H : aF} {d : AD} {ty : AJ} {pos : String} {af : AG} {g : Option (Nat × Bool)} {t el n : Nat} (hu : rE Γ.P t = some (el, n)) :
  dZ Γ ⟨d, .buildSlice t 0 #[], ty, pos, af, g⟩ e H (fun u H' => ∃ b, u = .slice (some ⟨b, 0, none⟩) 0 0 ∧ H' = (b, J [] el) :: H) := by
 intro w hw
 obtain ⟨h1, h2⟩ := wZ hu
 refine gX (v := .slice (some ⟨w.heap.size, 0, none⟩) 0 0) (w' := w.alloc (J [] el)) ?_ ⟨_, hw.alloc _, _, U, U⟩
 have h3 : ¬ (0 : Nat) > 2 ^ 24 := by decide
 have hq : (#[] : Array (Nat × AK)).map (fun x => (x.1, ev e x.2)) = #[] := by simp
 have hm : (Array.range 0).map (fun x => (#[] : Array AH)[x % (#[] : Array AH).size]!) = #[] := by simp
 have key : (Instr.buildSlice t 0 #[]).run Γ.P w = .ok (.slice (some ⟨w.heap.size, 0, none⟩) 0 0) (w.alloc (J [] el)) := by
  unfold Instr.buildSlice
  simp only [ay, run_underlying h1, vI h2, au, gj, if_true, ae h3, ca, hm, Instr.fill]
  rfl
 simp only [execOp, hq, ay, key, au, ca]
def aCm {kd : AM} {l : AB} {k : Nat} (h : k < l.length) : (l.map (Value.int kd))[k]? = some (.int kd (l.getD k 0)) := by simp [h]
def jS {G : aF} {b : Nat} (h : b ∈ G.map (·.1)) : ∃ o, (b, o) ∈ G := by
 obtain ⟨⟨b', o⟩, h1, h2⟩ := List.mem_map.1 h
 exact ⟨o, by simp only at h2; subst h2; exact h1⟩
def Cb {l vs : AA} (h : vs.length = l.length) : aV l 0 vs = vs := by
 unfold aV
 rw [gi, bq, cg, h, List.drop_length, aw]
def wS {α : Type} {c : α → AA} (A : List α) (x : α) : aN c (A ++ [x]) = aN c A ++ c x := by simp [aN]
section
variable {kd : AM} {f : Nat → Int} {N k : Nat}
def nO (kd : AM) (f : Nat → Int) (N k : Nat) : AA := (List.range k).map (fun i => Value.int kd (f i)) ++ List.replicate (N - k) (.int kd 0)
def aDE (kd : AM) (f : Nat → Int) (N : Nat) : List.replicate N (Value.int kd 0) = nO kd f N 0 := by simp [nO]
def Ur (hk : k ≤ N) : (nO kd f N k).length = N := by simp [nO]; omega
def aQr (hk : k < N) : nO kd f N k = (List.range k).map (fun i => Value.int kd (f i)) ++ ([.int kd 0] ++ List.replicate (N - (k + 1)) (.int kd 0)) := by
 unfold nO
 have : N - k = (N - (k + 1)) + 1 := by omega
 rw [this, List.replicate_succ]; rfl
def Mj (hk : k < N) (v : Int) (hv : v = f k) : aV (nO kd f N k) k [.int kd v] = nO kd f N (k + 1) := by
 have := zX ((List.range k).map (fun i => Value.int kd (f i))) [.int kd 0] (List.replicate (N - (k + 1)) (.int kd 0)) [.int kd v] rfl
 rw [jc, List.length_range] at this
 rw [aQr hk, this, hv]
 simp [nO, ej]
def aDw (kd : AM) (f : Nat → Int) (N : Nat) : nO kd f N N = (List.range N).map (fun i => Value.int kd (f i)) := by simp [nO]
def aEx (kd : AM) (f : Nat → Int) (N k : Nat) : fL (nO kd f N k) = true := by
 refine List.all_eq_true.2 fun x hx => ?_
 rcases List.mem_append.1 hx with h | h
 ·obtain ⟨i, _, rfl⟩ := List.mem_map.1 h; rfl
 ·obtain ⟨_, rfl⟩ := List.mem_replicate.1 h; rfl
def aFH {l : AA} {u v : AH} {k : Nat} (hk : k < l.length) : aV (aV l k [u]) k [v] = aV l k [v] := by
 have h1 : l = l.take k ++ ([l[k]] ++ l.drop (k + 1)) := by simp
 have hlen : (l.take k).length = k := by rw [f0]; omega
 generalize l.take k = X at *
 generalize l.drop (k + 1) = Z at *
 generalize l[k] = y at *
 have e : ∀ a b : AH, aV (X ++ ([a] ++ Z)) k [b] = X ++ ([b] ++ Z) := fun a b => by
  have := zX X [a] Z [b] rfl
  rwa [hlen] at this
 rw [h1, e, e, e]
def yQ {l vs : AA} {o : Nat} (h : o + vs.length ≤ l.length) : (aV l o vs).length = l.length := by
 simp only [aV, ei, f0, gz]; omega
end
def yN (P : AL) (t0 : AJ) (name : String) (f : Nat) : Prop := ∀ (v : AH) (w : AI), (method (P.types.size + Made.depth) t0 v name).run P w = .ok (f, v) w
def aGI {P : AL} {e : bB} {f : Nat} {x : AK} {t0 : AJ} {v : AH} {name : String} {l : AF} {ts : Array AJ} {d : AD} {t : AJ} {pos : String} {af : AG} {g : Option (Nat × Bool)}
  (hx : ev e x = .iface t0 v) (hm : yN P t0 name f) (hc : gR P f = true) (w : AI) :
  (execOp (ev e) ⟨d, .call ⟨.invoke x name, l.toArray, ts⟩, t, pos, af, g⟩).run P w = .ok (.enter f (#[v] ++ (l.map (ev e)).toArray)) w := by
 unfold gR at hc
 split at hc
 ·rename_i fn hf
  simp only [cq, gb] at hc
  obtain ⟨h1, h2⟩ := hc
  have hs : (program : Sem AL) = .program .pure := rfl
  have h3 : ¬ fn.name = "runtime.NumGoroutine" := by simpa using h1
  have h4 : ¬ fn.body = none := by
   intro hx; rw [hx] at h2; cases h2
  have hp : ∀ w, (program : Sem AL).run P w = .ok P w := fun w => rfl
  have hcf : ∀ (args : Array AH) w, (callFunc f args).run P w = .ok (.enter f args) w := fun args w => by
   simp [callFunc, bind, Sem.bind, Sem.run, hf, h3, h4, pure, hs]
  simp only [execOp, resolve, ay, ca, au, invoke, callMethod, hx]
  simp [hm v w, hcf, hp, ay, au]
  exact dm (by simp)
 ·cases hc
section
variable {Γ : dQ} {e : bB} {H F G : aF} {d : AD} {t : AJ} {pos : String} {af : AG} {g : Option (Nat × Bool)} {f : Nat} {x : AK} {l : AF} {ts : Array AJ}
def aPt {t0 : AJ} {v : AH} {name : String} {vs : AA} (ms2 : AE) (hx : ev e x = .iface t0 v) (hm : yN Γ.P t0 name f) (hc : gR Γ.P f = true) (hv : lI e l = some vs) {R : AH → aF → Prop}
  (hms : ∀ b ∈ ms2, ∃ o, (b, o) ∈ F) (hf : ∀ w, St Γ.w0 Γ.ms (F ++ G) w → aG Γ.P f (v :: vs) w ms2 R) :
  dZ Γ ⟨d, .call ⟨.invoke x name, l.toArray, ts⟩, t, pos, af, g⟩ e (F ++ G) (fun v H2 => ∃ H', R v H' ∧ H2 = H' ++ G) := fun w hw => by
 refine F3 (aGI hx hm hc w) ?_
 have : #[v] ++ (l.map (ev e)).toArray = (v :: vs).toArray := by
  rw [Cd hv]
  simp
 rw [this]
 refine Calls.mono (hf w hw) ?_
 rintro ex w' ⟨v, H', rfl, h1, h2⟩
 exact ⟨v, U, _, hw.call hms h1, H', h2, U⟩
def rI {A : aF} {t0 : AJ} {v : AH} {name : String} {vs : AA} (hx : ev e x = .iface t0 v) (hm : yN Γ.P t0 name f) (hc : gR Γ.P f = true) (hv : lI e l = some vs) {R : AH → aF → Prop}
  (hf : ∀ w, St Γ.w0 Γ.ms (A ++ F) w → aG Γ.P f (v :: vs) w (A.map (·.1)) R) :
  dZ Γ ⟨d, .call ⟨.invoke x name, l.toArray, ts⟩, t, pos, af, g⟩ e (F ++ A) (fun v H2 => ∃ H', R v H' ∧ H2 = F ++ H') := fun w hw => by
 refine tX (aPt (F := A) (G := F) (A.map (·.1)) hx hm hc hv (fun _ hb => jS hb) hf w (hw.perm bg)) ?_
 rintro v w' ⟨H2, h2, H', hR, rfl⟩
 exact ⟨F ++ H', h2.perm bg, H', hR, U⟩
def cX {A : aF} {vs : AA} (hc : gR Γ.P f = true) (hv : lI e l = some vs) {R : AH → aF → Prop}
  (hf : ∀ w, St Γ.w0 Γ.ms (A ++ F) w → aG Γ.P f vs w (A.map (·.1)) R) :
  dZ Γ ⟨d, .call ⟨.value (.func f), l.toArray, ts⟩, t, pos, af, g⟩ e (F ++ A) (fun v H2 => ∃ H', R v H' ∧ H2 = F ++ H') := fun w hw => by
 refine tX (kM (A := A) (G := F) (A.map (·.1)) hc hv (fun _ hb => jS hb) hf w (hw.perm bg)) ?_
 rintro v w' ⟨H2, h2, H', hR, rfl⟩
 exact ⟨F ++ H', h2.perm bg, H', hR, U⟩
def Qi {A : aF} {B C vs : AA} (hx : bC (ev e x) = some (.func (.func f) B.toArray C.toArray)) (hc : gR Γ.P f = true) (hv : lI e l = some vs) {R : AH → aF → Prop}
  (hf : ∀ w, St Γ.w0 Γ.ms (A ++ F) w → aG Γ.P f (B ++ vs ++ C) w (A.map (·.1)) R) :
  dZ Γ ⟨d, .call ⟨.value x, l.toArray, ts⟩, t, pos, af, g⟩ e (F ++ A) (fun v H2 => ∃ H', R v H' ∧ H2 = F ++ H') := fun w hw => by
 refine tX (aBn (F := A) (G := F) (A.map (·.1)) hx hc hv (fun _ hb => jS hb) hf w (hw.perm bg)) ?_
 rintro v w' ⟨H2, h2, H', hR, rfl⟩
 exact ⟨F ++ H', h2.perm bg, H', hR, U⟩
end
section
variable {P : AL} {e : bB} {H : aF}
def Kp {a b c d : Nat} {T U : AJ} {l m : AA} {w : AI} (h : bC (e a) = some (.pointer (some ⟨b, 0, none⟩))) (hs : rX P T = true) (hn : kU P T = some l.length) (hr : aK w b 0 l)
  (h2 : bC (e c) = some (.pointer (some ⟨d, 0, none⟩))) (hs2 : rX P U = true) (hn2 : kU P U = some m.length) (hr2 : aK w d 0 m) :
  kR P [.cell a T, .cell c U] e w (.tuple #[.agg l.toArray, .agg m.toArray]) := by
 have h := bT h
 have hl := run_loadCells_list (P := P) w ⟨b, 0, none⟩ l hr.add
 have h2 := bT h2
 have hl2 := run_loadCells_list (P := P) w ⟨d, 0, none⟩ m hr2.add
 simp [kR, vM, h, h2, asAddr, loadVar, ay, Fx hs, vI hn, Fx hs2, vI hn2, hl, hl2]
end
def aQi {w0 : AI} {ms : AE} (A : aF) {x : Nat × Obj} {R : aF} : ∀ w, St w0 ms (x :: (A ++ R)) w → St w0 ms (A ++ x :: R) w := fun _ hw => hw.perm List.perm_middle.symm
end Go.VV
namespace Go.VV
open Go Go.ChangeShapes Go.WideShapes Go.ChangeAt Go.RowKit
def aJS {W W' : AI} {H : aF} (h : St W [] H W') : Below W.heap.size W W' :=
 ⟨h.os, h.tape, h.output, h.size, fun k hk => h.block k hk (by simp)⟩
section
variable {H : Type} {enc : AJ × AH → H} {P : AL} {W : AI}
def P1 (hl : laidOutB P = true) {W' : AI} (bel : Below W.heap.size W W') : ∀ {ts : List AJ} {vs : AA} {ds : List (DataW H)} {p : List MemPlace},
  (ts.all fun t => P.readableRec t && decide (t < P.types.size)) = true → DataW.TrodAll enc P W 0 (fun _ => true) true ts vs ds p →
  DataW.TrodAll enc P W' 0 (fun b => decide (b < W.heap.size)) true ts vs ds p
 | [], vs, ds, p, _, h => by
  obtain ⟨rfl, rfl, rfl⟩ := trodAll_nil h
  exact trodAll_mk0
 | t :: ts, vs, ds, p, hr, h => by
  simp only [go, cq, al] at hr
  obtain ⟨v, vs', d, ds', p1, q, rfl, rfl, rfl, h1, h2⟩ := trodAll_cons h
  have hlt : ∀ x ∈ p1, x.block < W.heap.size := by obtain ⟨m, hm⟩ := h1; exact DataW.trod_lt m _ _ _ hm
  exact trodAll_cons_mk (Below.trod hl hr.1.1 hr.1.2 h1 bel hlt) (P1 hl bel hr.2 h2)
def Ir {x : Int} (h : (Lit.int .u8 x).wf = true) : 0 ≤ x ∧ x < 256 := by
 simp only [Lit.wf, cq, al] at h
 have h1 : IntKind.u8.min = 0 := by decide
 have h2 : IntKind.u8.max = 255 := by decide
 omega
def aP6 {x : Int} (h : (Lit.int .u64 x).wf = true) : 0 ≤ x ∧ x ≤ 18446744073709551615 := by
 simp only [Lit.wf, cq, al] at h
 have h1 : IntKind.u64.min = 0 := by decide
 have h2 : IntKind.u64.max = 18446744073709551615 := by decide
 omega
def aLc {l : AB} (h : ∀ x ∈ l, (Lit.int .u8 x).wf = true) : bE l := fun x hx => Ir (h x hx)
end
end Go.VV
