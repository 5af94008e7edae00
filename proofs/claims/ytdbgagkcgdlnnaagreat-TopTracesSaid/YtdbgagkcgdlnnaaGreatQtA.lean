/- Parts. -/
import Derived.Below
import Derived.Laws.CopyRow
import Derived.Laws.OwnMore
import Derived.Laws.Rows
import Derived.OrdersHeld
import Derived.OrdersIn
import Derived.RangeFuncIn
import Derived.RangeFuncLeaves
import Derived.Room.Entries
import Derived.TacticsIn
set_option maxRecDepth 100000
set_option maxHeartbeats 1000000
set_option linter.all false
namespace Go
def ae := @Option.some.inj
def ag := @Nat.le_of_ble_eq_true
def ah := @decide_eq_true
def ai := @Result.andThen_ok
def aj := @Nat.zero_le
def ak := @Sem.run_bind
def al := @Bool.and_eq_true
def am := @List.getElem?_eq_getElem
def ap := @List.set_cons_zero
def aq := @List.length_singleton
def ar := @List.length_nil
def au := @List.perm_append_comm
def av := @Sem.run_pure
def aw := @List.map_append
def ax := @Nat.le_refl
def ay := @List.mem_of_getElem?
def az := @Nat.zero_add
def be := @List.map_cons
def bf := @List.drop_drop
def bg := @List.append_assoc
def bi := @Nat.eq_of_beq_eq_true
def bj := @Int.toNat_natCast
def bq := @List.append_nil
def bw := @List.nil_append
def bz := @List.getElem?_map
def ca := @List.length_replicate
def ce := @List.sublist_cons_self
def cg := @List.cons_append
def ci := @List.eq_nil_of_length_eq_zero
def cj := @List.map_toArray
def cn := @List.set_cons_succ
def co := @List.getD_eq_getElem?_getD
def cq := @List.sublist_append_left
def cr := @decide_eq_false
def ct := @List.map_nil
def cu := @Int.toNat_of_nonneg
def cw := @List.take_of_length_le
def cx := @List.nodup_append
def cy := @List.getElem?_toArray
def cz := @List.set_eq_take_append_cons_drop
def c7 := @of_decide_eq_true
def c8 := @List.Perm.append_right
def da := @List.getElem?_eq_none
def db := @List.getElem?_drop
def dd := @Nat.eq_zero_or_pos
def de := @Nat.lt_of_lt_of_le
def df := @of_decide_eq_false
def dg := @Nat.add_assoc
def dh := @Nat.lt_or_ge
def di := @List.take_length
def dj := @List.take_append_drop
def dk := @List.getElem?_cons_succ
def dm := @List.drop_of_length_le
def dp := @List.getElem?_append_left
def dq := @List.range_succ
def dr := @List.drop_left'
def dt := @List.getElem?_cons_zero
def du := @List.mem_of_mem_take
def dv := @Int.fdiv_eq_ediv_of_nonneg
def dw := @Bool.not_eq_true'
def dx := @Nat.and_two_pow_sub_one_eq_mod
def dz := @List.getElem?_take
def d5 := @List.length_append
def d6 := @List.getElem?_set
def d7 := @List.toList_toArray
def d8 := @Array.getElem?_eq_none
def d9 := @List.getElem?_append_right
def ea := @List.take_succ_eq_append_getElem
def ed := @List.sublist_append_right
def ee := @Bool.or_eq_true
def ef := @List.mem_of_mem_drop
def eg := @List.take_left'
def eh := @Int.emod_nonneg
def ei := @List.getElem?_range
def ej := @List.length_take
def eo := @Nat.mul_one
def ep := @BitVec.toNat_ofInt
def eq := @Int.emod_lt_of_pos
def er := @Nat.min_eq_left
def et := @List.mem_append_right
def eu := @List.mem_cons
def ew := @Nat.mul_le_mul_right
def ey := @List.mem_or_eq_of_mem_set
def ez := @Nat.pow_le_pow_right
def fe := @Int.pow_pos
def fh := @List.getElem_mem
def fi := @List.not_mem_nil
def fj := @Array.getElem?_setIfInBounds_ne
def fk := @List.take_add_one
def fm := @List.foldl_append
def fo := @List.flatMap_cons
def fp := @Nat.testBit_shiftLeft
def fq := @List.mem_range
def fu := @List.drop_left
def fv := @Array.getElem?_modify
def fw := @Array.getD_eq_getD_getElem?
def fx := @List.length_drop
def fy := @List.mem_append_left
def fz := @BitVec.toNat_and
def f0 := @List.length_dropLast
def f2 := @Bool.true_and
def f4 := @Nat.eq_of_mul_eq_mul_right
def f5 := @List.map_drop
def f6 := @List.foldl_cons
def f7 := @Nat.le_trans
def f8 := @Nat.zero_mul
def ga := @List.mem_singleton
def gb := @List.take_zero
def gc := @Nat.add_sub_cancel_left
def ge := @bne_self_eq_false
def gf := @List.drop_eq_nil_of_le
def gh := @List.getElem?_set_self
def gi := @Int.le_refl
def gj := @Option.getD_some
def gk := @List.length_cons
def gl := @Int.ediv_le_self
def gm := @Int.emod_add_mul_ediv
def gn := @Nat.add_zero
def go := @Option.map_some
def gp := @Option.map_none
def gq := @List.mem_append
def gr := @Nat.zero_lt_one
def gt := @Nat.add_comm
def gu := @List.mem_map
def gv := @Nat.mod_lt
def gw := @Int.ediv_nonneg
def gx := @Nat.eq_of_testBit_eq
def gz := @List.getElem?_set_ne
def g5 := @Int.le_of_lt
def g7 := @List.all_append
def g8 := @Int.mul_le_mul_of_nonneg_right
def g9 := @List.take_append_of_le_length
def ia := @List.drop_append_of_le_length
def ib := @List.take_left
def ic := @Int.natCast_nonneg
def ie := @List.map_replicate
def ig := @Nat.two_pow_add_eq_or_of_lt
def ii := @Bool.not_true
def ij := @List.all_cons
def ik := @List.map_take
def il := @Int.tdiv_eq_ediv_of_nonneg
def im := @List.size_toArray
def io := @List.mem_of_find?_eq_some
def ip := @List.Sublist.append_right
def iq := @Nat.shiftRight_eq_div_pow
def ir := @List.drop_eq_getElem_cons
def iu := @Array.getElem?_replicate
def iv := @Bool.not_eq_true
def iw := @List.take_append
def iy := @List.drop_append
def iz := @List.Sublist.append_left
def i2 := @Nat.shiftLeft_eq
def i3 := @List.nodup_cons
def i4 := @Int.natCast_mul
def i5 := @List.length_map
def i6 := @Nat.two_pow_pos
def i7 := @Nat.testBit_and
def i9 := @Nat.add_mul
def ja := @Nat.sub_sub
abbrev AA := List Value
abbrev AB := List Int
abbrev AC := Option Addr
abbrev AD := Option Nat
abbrev AE := List Nat
abbrev AF := List Operand
abbrev AG := Array Edge
abbrev AH := Value
abbrev AI := World
abbrev AJ := TypeId
abbrev AK := Operand
abbrev AL := Program
abbrev AM := IntKind
end Go
namespace Go.VV
open Go Go.RowKit
abbrev Env := Nat → AH
def Env.set (e : Env) (d : Nat) (v : AH) : Env := fun t => bif Nat.beq t d then v else e t
def Env.put (e : Env) : AD → AH → Env
 | some d, v => e.set d v
 | none, _ => e
def ev (e : Env) : AK → AH
 | .tmp t => e t
 | .const v => v
 | .global g => .pointer (some ⟨g, 0, none⟩)
 | .func f => .func (.func f) #[] #[]
structure Rep (n : Nat) (D : List Deferred) (e : Env) (a : Act) : Prop where
 defers : a.defers = D
 size : a.tmps.size = n
 look : e = fun t => a.tmps.getD t undef
def Rep.eval {n : Nat} {D : List Deferred} {e : Env} {a : Act} (h : Rep n D e a) : a.eval = ev e := by
 funext x
 cases x <;> simp [Act.eval, ev, h.look]
def cJ (n : Nat) : AD → Bool
 | some d => Nat.blt d n
 | none => true
def Rep.put {n : Nat} {D : List Deferred} {e : Env} {a : Act} (h : Rep n D e a) {d : AD} (hd : cJ n d = true) (v : AH) : Rep n D (e.put d v) (a.put d v) := by
 cases d with
 | none => exact h
 | some d =>
  have hlt : d < n := by simpa [cJ] using hd
  refine ⟨h.defers, by simp [Act.put, h.size], ?_⟩
  funext t
  have hs := h.size
  simp only [Env.put, Env.set, Act.put, h.look]
  by_cases ht : t = d
  ·subst ht
   simp [hs, hlt]
  ·have hb : Nat.beq t d = false := by
    cases hx : Nat.beq t d
    ·rfl
    ·exact absurd (bi hx) ht
   simp [hb, fj (Ne.symm ht)]
abbrev aB := List (Nat × Obj)
structure St (w0 : AI) (ms : AE) (L : aB) (w : AI) : Prop where
 os : w.os = w0.os
 tape : w.tape = w0.tape
 output : w.output = w0.output
 size : w0.heap.size ≤ w.heap.size
 block : ∀ k, k < w0.heap.size → k ∉ ms → w.heap[k]? = w0.heap[k]?
 nodup : (L.map (·.1)).Nodup
 own : ∀ x ∈ L, x.1 ∈ ms ∨ w0.heap.size ≤ x.1
 holds : ∀ x ∈ L, w.heap[x.1]? = some x.2
def St.refl (w : AI) : St w [] [] w := ⟨rfl, rfl, rfl, ax _, fun _ _ _ => rfl, by simp, by simp, by simp⟩
def St.drew {w0 w : AI} {ms : AE} {L : aB} (h : St w0 ms L w) : St w0 ms L { w with drawn := w.drawn + 1 } :=
 ⟨h.os, h.tape, h.output, h.size, h.block, h.nodup, h.own, h.holds⟩
def St.lt {w0 w : AI} {ms : AE} {L : aB} (h : St w0 ms L w) {x : Nat × Obj} (hx : x ∈ L) : x.1 < w.heap.size := by
 have := h.holds x hx
 by_cases hlt : x.1 < w.heap.size
 ·exact hlt
 ·rw [d8 (by omega)] at this; cases this
def St.sub {w0 w : AI} {ms : AE} {L L' : aB} (h : St w0 ms L w) (hs : L'.Sublist L) : St w0 ms L' w :=
 ⟨h.os, h.tape, h.output, h.size, h.block, (hs.map _).nodup h.nodup, fun x hx => h.own x (hs.subset hx), fun x hx => h.holds x (hs.subset hx)⟩
def St.perm {w0 w : AI} {ms : AE} {L L' : aB} (h : St w0 ms L w) (hs : L.Perm L') : St w0 ms L' w :=
 ⟨h.os, h.tape, h.output, h.size, h.block, (hs.map _).nodup_iff.1 h.nodup, fun x hx => h.own x (hs.symm.subset hx), fun x hx => h.holds x (hs.symm.subset hx)⟩
def St.alloc {w0 w : AI} {ms : AE} {L : aB} (h : St w0 ms L w) (o : Obj) : St w0 ms ((w.heap.size, o) :: L) (w.alloc o) := by
 refine ⟨h.os, h.tape, h.output, ?_, ?_, ?_, ?_, ?_⟩
 ·have := h.size; show _ ≤ (w.heap.push o).size; simp; omega
 ·intro k hk hm
  show (w.heap.push o)[k]? = _
  have := h.size
  rw [Array.getElem?_push, if_neg (by omega)]
  exact h.block k hk hm
 ·simp only [be, i3]
  refine ⟨fun hm => ?_, h.nodup⟩
  obtain ⟨x, hx, hxe⟩ := List.mem_map.1 hm
  have := h.lt hx
  omega
 ·intro x hx
  rcases List.mem_cons.1 hx with rfl | hx
  ·exact .inr h.size
  ·exact h.own x hx
 ·intro x hx
  show (w.heap.push o)[x.1]? = _
  rcases List.mem_cons.1 hx with rfl | hx
  ·simp
  ·have := h.lt hx
   rw [Array.getElem?_push, if_neg (by omega)]
   exact h.holds x hx
def St.turn {w0 w w' : AI} {ms : AE} {L : aB} {b : Nat} {o o' : Obj} (h : St w0 ms ((b, o) :: L) w)
  (h1 : w'.os = w.os) (h2 : w'.tape = w.tape) (h3 : w'.output = w.output) (h4 : w'.heap.size = w.heap.size)
  (h5 : ∀ k, k ≠ b → w'.heap[k]? = w.heap[k]?) (h6 : w'.heap[b]? = some o') : St w0 ms ((b, o') :: L) w' := by
 have hnd := h.nodup
 simp only [be, i3] at hnd
 refine ⟨h1.trans h.os, h2.trans h.tape, h3.trans h.output, by rw [h4]; exact h.size, ?_, ?_, ?_, ?_⟩
 ·intro k hk hm
  by_cases hkb : k = b
  ·subst hkb
   rcases h.own (k, o) (by simp) with h7 | h7
   ·exact absurd h7 hm
   ·simp at h7; omega
  ·rw [h5 k hkb]; exact h.block k hk hm
 ·simpa using hnd
 ·intro x hx
  rcases List.mem_cons.1 hx with rfl | hx
  ·exact h.own (b, o) (by simp)
  ·exact h.own x (by simp [hx])
 ·intro x hx
  rcases List.mem_cons.1 hx with rfl | hx
  ·exact h6
  ·have hne : x.1 ≠ b := fun he => hnd.1 (he ▸ List.mem_map.2 ⟨x, hx, rfl⟩)
   rw [h5 _ hne]
   exact h.holds x (by simp [hx])
def St.old {w0 w : AI} {ms : AE} {L : aB} (h : St w0 ms L w) {b : Nat} {o : Obj} (hb : w0.heap[b]? = some o) (hm : b ∉ ms) : w.heap[b]? = some o := by
 have hlt : b < w0.heap.size := by
  by_cases hlt : b < w0.heap.size
  ·exact hlt
  ·rw [d8 (by omega)] at hb; cases hb
 rw [h.block b hlt hm]; exact hb
def St.call {w0 w w' : AI} {ms ms2 : AE} {F F' R : aB} (h : St w0 ms (F ++ R) w) (hms : ∀ b ∈ ms2, ∃ o, (b, o) ∈ F) (h' : St w ms2 F' w') : St w0 ms (F' ++ R) w' := by
 have hsz := h.size
 have key : ∀ b ∈ ms2, b ∈ ms ∨ w0.heap.size ≤ b := fun b hb => by
  obtain ⟨o, ho⟩ := hms b hb
  exact h.own (b, o) (by simp [ho])
 have hnd := h.nodup
 rw [aw, cx] at hnd
 obtain ⟨hF, hR, hFR⟩ := hnd
 have hRlt : ∀ x ∈ R, x.1 < w.heap.size := fun x hx => h.lt (by simp [hx])
 have hRm : ∀ x ∈ R, x.1 ∉ ms2 := fun x hx hm => by
  obtain ⟨o, ho⟩ := hms _ hm
  exact hFR _ (List.mem_map.2 ⟨_, ho, rfl⟩) _ (List.mem_map.2 ⟨x, hx, rfl⟩) rfl
 refine ⟨h'.os.trans h.os, h'.tape.trans h.tape, h'.output.trans h.output, f7 hsz h'.size, ?_, ?_, ?_, ?_⟩
 ·intro k hk hm
  by_cases hk2 : k ∈ ms2
  ·rcases key k hk2 with h1 | h1
   ·exact absurd h1 hm
   ·omega
  ·rw [h'.block k (by omega) hk2]; exact h.block k hk hm
 ·rw [aw, cx]
  refine ⟨h'.nodup, hR, ?_⟩
  intro a ha b hb hab
  obtain ⟨x, hx, rfl⟩ := List.mem_map.1 ha
  obtain ⟨y, hy, rfl⟩ := List.mem_map.1 hb
  rcases h'.own x hx with h1 | h1
  ·exact hRm y hy (hab ▸ h1)
  ·have := hRlt y hy; omega
 ·intro x hx
  rcases List.mem_append.1 hx with hx | hx
  ·rcases h'.own x hx with h1 | h1
   ·exact key _ h1
   ·exact .inr (by omega)
  ·exact h.own x (by simp [hx])
 ·intro x hx
  rcases List.mem_append.1 hx with hx | hx
  ·exact h'.holds x hx
  ·rw [h'.block x.1 (hRlt x hx) (hRm x hx)]
   exact h.holds x (by simp [hx])
structure dS where
 N : Env → aB → Prop
 R : Env → aB → Prop
 X : List (Nat × (Env → aB → Prop))
def lS : List (Nat × (Env → aB → Prop)) → Nat → Option (Env → aB → Prop)
 | [], _ => none
 | (i, K) :: r, j => bif Nat.beq i j then some K else lS r j
def dS.at (k : dS) : Exit → Env → aB → Prop
 | .normal, e, L => k.N e L
 | .ret, e, L => k.R e L
 | .exit id, e, L => match lS k.X (2 * id) with
  | some K => K e L
  | none => False
 | .goto l, e, L => match lS k.X (2 * l + 1) with
  | some K => K e L
  | none => False
 | _, _, _ => False
def mG {X : List (Nat × (Env → aB → Prop))} {i j : Nat} {K : Env → aB → Prop} (h : i ≠ j) : lS ((i, K) :: X) j = lS X j := by
 have hb : Nat.beq i j = false := by
  cases hx : Nat.beq i j
  ·rfl
  ·exact absurd (bi hx) h
 simp only [lS, hb, cond_false]
def uZ {X : List (Nat × (Env → aB → Prop))} {i : Nat} {K : Env → aB → Prop} : lS ((i, K) :: X) i = some K := by
 have hb : Nat.beq i i = true := Nat.beq_refl i
 simp only [lS, hb, cond_true]
def Q (n : Nat) (D : List Deferred) (w0 : AI) (ms : AE) (k : dS) (x : Exit) (a : Act) (w : AI) : Prop :=
 ∃ e L, Rep n D e a ∧ St w0 ms L w ∧ k.at x e L
structure Ctx where
 P : AL
 n : Nat
 w0 : AI
 ms : AE
 r : AD := none
 D : List Deferred := []
def Fr (r : AD) : Fence := { fn := fun _ => True, depth := none, alive := false, round := r }
def C (Γ : Ctx) (c : Code) (k : dS) (e : Env) (L : aB) : Prop :=
 ∀ a w, Rep Γ.n Γ.D e a → St Γ.w0 Γ.ms L w → Code.wpIn (Fr Γ.r) 0 Γ.P c (Q Γ.n Γ.D Γ.w0 Γ.ms k) a w
def Q.mono {n : Nat} {D : List Deferred} {w0 : AI} {ms : AE} {k k' : dS} (h : ∀ x e L, k.at x e L → k'.at x e L) {x : Exit} {a : Act} {w : AI} (q : Q n D w0 ms k x a w) : Q n D w0 ms k' x a w :=
 let ⟨e, L, h1, h2, h3⟩ := q
 ⟨e, L, h1, h2, h _ _ _ h3⟩
section rules
variable {Γ : Ctx} {k : dS} {e : Env} {L : aB}
def aHI {x y : Code} (h : C Γ x ⟨fun e L => C Γ y k e L, k.R, k.X⟩ e L) : C Γ (.seq x y) k e L := by
 intro a w ha hw
 refine wpIn_seq (wpIn_mono (h a w ha hw) ?_)
 rintro ex a' w' ⟨e', L', h1, h2, h3⟩
 cases ex <;> simp only [dS.at, Exit.then] at h3 ⊢
 case normal => exact h3 a' w' h1 h2
 case exit id => exact ⟨e', L', h1, h2, h3⟩
 case goto l => exact ⟨e', L', h1, h2, h3⟩
 case ret => exact ⟨e', L', h1, h2, h3⟩
def aIQ (h : k.N e L) : C Γ .skip k e L := fun _ _ ha hw => wpIn_skip ⟨e, L, ha, hw, h⟩
def aSj (h : k.R e L) : C Γ .ret k e L := fun _ _ ha hw => wpIn_ret ⟨e, L, ha, hw, h⟩
def aRk {id : Nat} {K : Env → aB → Prop} (hk : lS k.X (2 * id) = some K) (h : K e L) : C Γ (.exit id) k e L :=
 fun _ _ ha hw => wpIn_exit ⟨e, L, ha, hw, by simp only [dS.at, hk]; exact h⟩
def aQ1 {l : Nat} {K : Env → aB → Prop} (hk : lS k.X (2 * l + 1) = some K) (h : K e L) : C Γ (.goto l) k e L :=
 fun _ _ ha hw => wpIn_goto ⟨e, L, ha, hw, by simp only [dS.at, hk]; exact h⟩
def aNZ {l : Nat} (h : k.N e L) : C Γ (.label l) k e L := fun _ _ ha hw => wpIn_label ⟨e, L, ha, hw, h⟩
def aPk {id : Nat} {c : Code} (h : C Γ c ⟨k.N, k.R, (2 * id, k.N) :: k.X⟩ e L) : C Γ (.block id c) k e L := by
 intro a w ha hw
 refine wpIn_block (wpIn_mono (h a w ha hw) ?_)
 rintro ex a' w' ⟨e', L', h1, h2, h3⟩
 cases ex <;> simp only [dS.at, Exit.inBlock] at h3 ⊢
 case normal => exact ⟨e', L', h1, h2, h3⟩
 case ret => exact ⟨e', L', h1, h2, h3⟩
 case goto l =>
  rw [mG (by omega)] at h3
  exact ⟨e', L', h1, h2, h3⟩
 case exit id' =>
  by_cases hid : id' = id
  ·subst hid
   rw [uZ] at h3
   rw [if_pos rfl]
   exact ⟨e', L', h1, h2, h3⟩
  ·rw [mG (by omega)] at h3
   rw [if_neg hid]
   exact ⟨e', L', h1, h2, h3⟩
def aBM {c : AK} {x y : Code} {t : Bool} (hc : ev e c = .bool t) (h1 : t = true → C Γ x k e L) (h2 : t = false → C Γ y k e L) : C Γ (.cond c x y) k e L := by
 intro a w ha hw
 refine wpIn_cond_split (t := t) (by rw [ha.eval]; exact hc) (fun ht => h1 ht a w ha hw) (fun ht => h2 ht a w ha hw)
def aRl {c : AK} {x y : Code} (hc : ev e c = .bool true) (h1 : C Γ x k e L) : C Γ (.cond c x y) k e L := aBM hc (fun _ => h1) (fun h => by cases h)
def aP6 {c : AK} {x y : Code} (hc : ev e c = .bool false) (h1 : C Γ y k e L) : C Γ (.cond c x y) k e L := aBM hc (fun h => by cases h) (fun _ => h1)
def aJQ {c : Code} {k' : dS} (h : C Γ c k e L) (hk : ∀ x e L, k.at x e L → k'.at x e L) : C Γ c k' e L :=
 fun a w ha hw => wpIn_mono (h a w ha hw) fun _ _ _ q => q.mono hk
def eP {c : Code} {L' : aB} (hs : ∀ w, St Γ.w0 Γ.ms L w → St Γ.w0 Γ.ms L' w) (h : C Γ c k e L') : C Γ c k e L :=
 fun a w ha hw => h a w ha (hs w hw)
def mix (M : AE) (vs : List (Nat × AH)) (x e : Env) : Env := fun t =>
 match vs.find? (fun p => Nat.beq p.1 t) with
 | some p => p.2
 | none => bif M.any (Nat.beq t) then x t else e t
def dU (M : AE) (e' e : Env) : Prop := ∀ t, M.any (Nat.beq t) = false → e' t = e t
def dU.refl (M : AE) (e : Env) : dU M e e := fun _ _ => rfl
def dU.set {M : AE} {e' e : Env} {d : Nat} {v : AH} (hd : M.any (Nat.beq d) = true) (h : dU M e' e) : dU M (e'.set d v) e := fun t ht => by
 have hb : Nat.beq t d = false := by
  cases hx : Nat.beq t d
  ·rfl
  ·have := bi hx; subst this; rw [ht] at hd; cases hd
 simp only [Env.set, hb, cond_false]
 exact h t ht
def dU.put {M : AE} {e' e : Env} {d : Nat} {v : AH} (hd : M.any (Nat.beq d) = true) (h : dU M e' e) : dU M (e'.put (some d) v) e := h.set hd
def dU.mix {M : AE} {vs : List (Nat × AH)} {x e : Env} (hv : vs.all (fun p => M.any (Nat.beq p.1)) = true) : dU M (mix M vs x e) e := fun t ht => by
 have hf : vs.find? (fun p => Nat.beq p.1 t) = none := by
  rw [List.find?_eq_none]
  intro p hp hb
  have h1 := (List.all_eq_true.1 hv) p hp
  have h2 := bi hb
  rw [h2] at h1; rw [ht] at h1; cases h1
 simp only [VV.mix, hf, ht, cond_false]
def dU.trans {M : AE} {a b c : Env} (h : dU M a b) (h' : dU M b c) : dU M a c := fun t ht => (h t ht).trans (h' t ht)
def dU.more {M M' : AE} {a b : Env} (h : dU M a b) (hs : M.all (fun d => M'.any (Nat.beq d)) = true) : dU M' a b := fun t ht => h t (by
 cases hx : M.any (Nat.beq t)
 ·rfl
 ·obtain ⟨d, hd, hb⟩ := List.any_eq_true.1 hx
  have h1 := List.all_eq_true.1 hs d hd
  have h2 := bi hb
  subst h2
  rw [ht] at h1; cases h1)
def lK (e : Env) (vs : List (Nat × AH)) : Prop := ∀ p ∈ vs, e p.1 = p.2
def lK.nil {e : Env} : lK e [] := fun _ h => by cases h
def lK.cons {e : Env} {t : Nat} {v : AH} {vs : List (Nat × AH)} (h : e t = v) (hs : lK e vs) : lK e ((t, v) :: vs) := fun p hp => by
 rcases List.mem_cons.1 hp with rfl | hp
 ·exact h
 ·exact hs p hp
def vK {M : AE} {vs : List (Nat × AH)} {e' e : Env} (hs : lK e' vs) (ha : dU M e' e) : e' = mix M vs e' e := by
 funext t
 unfold mix
 split
 ·rename_i p hp
  have h1 := io hp
  have h2 := List.find?_some hp
  have h3 := bi h2
  rw [← h3]; exact hs p h1
 ·cases hx : M.any (Nat.beq t)
  ·simp only [cond_false]; exact ha t hx
  ·simp only [cond_true]
def aDW {p : Nat → Prop} (h : ∃ m, p m) : ∃ m, p m ∧ ∀ k, k < m → ¬ p k := by
 obtain ⟨m, hm⟩ := h
 induction m using Nat.strongRecOn with
 | _ m ih =>
  by_cases hx : ∃ k, k < m ∧ p k
  ·obtain ⟨k, hk, hp⟩ := hx
   exact ih k hk hp
  ·exact ⟨m, hm, fun k hk hp => hx ⟨k, hk, hp⟩⟩
def aHL {F : Fence} {n : Nat} {P : AL} {ι : Type} {c : Code} {R : Exit → Act → AI → Prop} (I : ι → Act → AI → Prop) (μ : ι → Nat) {a : Act} {w : AI} (i0 : ι) (h0 : I i0 a w)
  (round : ∀ i a w, I i a w → c.wpIn F n P (Exit.then (fun a' w' => ∃ j, I j a' w' ∧ μ j < μ i) R) a w) : (Code.loop c).wpIn F n P R a w := by
 classical
 let p : Act → AI → Nat → Prop := fun a w m => ∃ i, I i a w ∧ μ i = m
 let f : Act → AI → Nat := fun a w => if h : ∃ m, p a w m then Classical.choose (aDW h) else 0
 have hf : ∀ a w, (∃ m, p a w m) → p a w (f a w) ∧ ∀ k, k < f a w → ¬ p a w k := fun a w h => by
  have := Classical.choose_spec (aDW h)
  simp only [f, dif_pos h]
  exact this
 refine wpIn_loop (fun a w => ∃ i, I i a w) f ⟨i0, h0⟩ ?_
 intro a w hI
 obtain ⟨i1, hi1⟩ := hI
 obtain ⟨⟨i, hi, hm⟩, _⟩ := hf a w ⟨_, i1, hi1, rfl⟩
 refine wpIn_mono (round i a w hi) ?_
 intro ex a' w' h
 cases ex <;> simp only [Exit.then] at h ⊢
 case normal =>
  obtain ⟨j, hj, hlt⟩ := h
  refine ⟨⟨j, hj⟩, ?_⟩
  have h2 := (hf a' w' ⟨_, j, hj, rfl⟩).2
  rcases dh (f a' w') (f a w) with h3 | h3
  ·exact h3
  ·exact absurd ⟨j, hj, rfl⟩ (h2 (μ j) (by omega))
 all_goals exact h
def bG {σ : Type} {c : Code} (M : AE) (vs : σ → List (Nat × AH)) (H : σ → aB) (J : σ → Prop) (μ : σ → Nat) (s0 : σ)
  (h0 : J s0) (hv : lK e (vs s0)) (hh : ∀ w, St Γ.w0 Γ.ms L w → St Γ.w0 Γ.ms (H s0) w)
  (round : ∀ s x, J s → C Γ c ⟨fun e' L' => ∃ s', J s' ∧ μ s' < μ s ∧ lK e' (vs s') ∧ dU M e' e ∧ (∀ w, St Γ.w0 Γ.ms L' w → St Γ.w0 Γ.ms (H s') w), k.R, k.X⟩ (mix M (vs s) x e) (H s)) :
  C Γ (.loop c) k e L := by
 intro a w ha hw
 refine aHL (ι := σ) (fun s a w => J s ∧ ∃ x, Rep Γ.n Γ.D (mix M (vs s) x e) a ∧ St Γ.w0 Γ.ms (H s) w) μ s0
  ⟨h0, e, by rw [← vK hv (dU.refl M e)]; exact ha, hh w hw⟩ ?_
 rintro s a w ⟨hJ, x, ha, hw⟩
 refine wpIn_mono (round s x hJ a w ha hw) ?_
 rintro ex a' w' ⟨e', L', h1, h2, h3⟩
 cases ex <;> simp only [dS.at, Exit.then] at h3 ⊢
 case normal =>
  obtain ⟨s', hJ', hlt, hs, hA, hH⟩ := h3
  exact ⟨s', ⟨hJ', e', by rw [← vK hs hA]; exact h1, hH w' h2⟩, hlt⟩
 case exit id => exact ⟨e', L', h1, h2, h3⟩
 case goto l => exact ⟨e', L', h1, h2, h3⟩
 case ret => exact ⟨e', L', h1, h2, h3⟩
def pJ {σ : Type} {x y : Code} (M : AE) (vs : σ → List (Nat × AH)) (H : σ → aB) (J : σ → Prop)
  (h1 : C Γ x ⟨fun e' L' => ∃ s, J s ∧ lK e' (vs s) ∧ dU M e' e ∧ (∀ w, St Γ.w0 Γ.ms L' w → St Γ.w0 Γ.ms (H s) w), k.R, k.X⟩ e L)
  (h2 : ∀ s x, J s → C Γ y k (mix M (vs s) x e) (H s)) : C Γ (.seq x y) k e L := by
 refine aHI (fun a w ha hw => wpIn_mono (h1 a w ha hw) ?_)
 rintro ex a' w' ⟨e', L', g1, g2, g3⟩
 cases ex <;> simp only [dS.at] at g3 ⊢
 case normal =>
  obtain ⟨s, hJ, hs, hA, hH⟩ := g3
  refine ⟨e', L', g1, g2, ?_⟩
  simp only [dS.at]
  intro a2 w2 ha2 hw2
  have := vK hs hA
  exact h2 s e' hJ a2 w2 (this ▸ ha2) (hH _ hw2)
 case exit id => exact ⟨e', L', g1, g2, g3⟩
 case goto l => exact ⟨e', L', g1, g2, g3⟩
 case ret => exact ⟨e', L', g1, g2, g3⟩
end rules
def bM {α : Type} (P : AL) : Sem α → Option α
 | .pure a => some a
 | .program k => bM P (k P)
 | _ => none
def xT {α : Type} {P : AL} {s : Sem α} {a : α} (h : bM P s = some a) (w : AI) : s.run P w = .ok a w := by
 induction s with
 | pure b => simp only [bM] at h; cases h; rfl
 | program k ih => simp only [bM] at h; simp only [Sem.run]; exact ih P h
 | _ => simp [bM] at h
def vnf : AH → Option AH
 | .bool b => some (.bool b)
 | .int k n => some (.int k n)
 | .float k n => some (.float k n)
 | .complex k a b => some (.complex k a b)
 | .string s => some (.string s)
 | .pointer none => some (.pointer none)
 | .pointer (some ⟨b, o, s⟩) => some (.pointer (some ⟨b, o, s⟩))
 | .slice a n c => some (.slice a n c)
 | .map r => some (.map r)
 | .chan r => some (.chan r)
 | .func f a b => some (.func f a b)
 | .nilFunc => some .nilFunc
 | .iface t v => some (.iface t v)
 | .nilIface => some .nilIface
 | .agg cs => some (.agg cs)
 | .tuple vs => some (.tuple vs)
def aK {v u : AH} (h : vnf v = some u) : v = u := by
 cases v with
 | pointer a => cases a with
  | none => exact ae h
  | some a => cases a; exact ae h
 | _ => exact ae h
def bH (P : AL) (e : Env) (o : Oper) : Option AH :=
 match bM P (execOp (ev e) o) with
 | some (.value v) => vnf v
 | some .skip => some undef
 | _ => none
def aDc {P : AL} {e : Env} {o : Oper} {v : AH} (h : bH P e o = some v) (w : AI) :
  (execOp (ev e) o).run P w = .ok (.value v) w ∨ ((execOp (ev e) o).run P w = .ok .skip w ∧ v = undef) := by
 unfold bH at h
 split at h
 ·rename_i u hu
  rw [← aK h]
  exact .inl (xT hu w)
 ·rename_i hu
  cases h
  exact .inr ⟨xT hu w, rfl⟩
 ·cases h
def opW (P : AL) (o : Oper) (e : Env) (w : AI) (K : AH → AI → Prop) : Prop :=
 match (execOp (ev e) o).run P w with
 | .ok (.value v) w' => K v w'
 | .ok .skip w' => K undef w'
 | .ok (.enter f args) w' => Calls P f args w' (fun ex w'' => ∃ v, ex = .returned v ∧ K v w'')
 | _ => False
def cY {P : AL} {o : Oper} {e : Env} {w w' : AI} {v : AH} {K : AH → AI → Prop} (h : (execOp (ev e) o).run P w = .ok (.value v) w') (k : K v w') : opW P o e w K := by
 simp only [opW, h]; exact k
def aA6 {P : AL} {o : Oper} {e : Env} {w w' : AI} {K : AH → AI → Prop} (h : (execOp (ev e) o).run P w = .ok .skip w') (k : K undef w') : opW P o e w K := by
 simp only [opW, h]; exact k
def zI {P : AL} {o : Oper} {e : Env} {w w' : AI} {f : FuncId} {args : Array AH} {K : AH → AI → Prop} (h : (execOp (ev e) o).run P w = .ok (.enter f args) w')
  (k : Calls P f args w' (fun ex w'' => ∃ v, ex = .returned v ∧ K v w'')) : opW P o e w K := by
 simp only [opW, h]; exact k
def aKm {P : AL} {o : Oper} {e : Env} {w : AI} {v : AH} {K : AH → AI → Prop} (h : bH P e o = some v) (k : K v w) : opW P o e w K := by
 rcases aDc h w with h1 | ⟨h1, h2⟩
 ·exact cY h1 k
 ·subst h2; exact aA6 h1 k
def iG {P : AL} {o : Oper} {e : Env} {w : AI} {K K' : AH → AI → Prop} (h : opW P o e w K) (hk : ∀ v w', K v w' → K' v w') : opW P o e w K' := by
 unfold opW at *
 split at h
 ·exact hk _ _ h
 ·exact hk _ _ h
 ·exact h.mono fun ex w'' ⟨v, h1, h2⟩ => ⟨v, h1, hk _ _ h2⟩
 ·exact h.elim
def aF8 {P : AL} {o : Oper} {e : Env} {w : AI} {K : AH → AI → Prop} (h : opW P o e w K) (c : Call) : o.op ≠ .defer c := by
 intro ho
 have h1 : execOp (ev e) o = (do pure (.defer (← resolve (ev e) c o.type))) := by simp only [execOp, ho]
 unfold opW at h
 rw [h1, ak] at h
 cases hr : (resolve (ev e) c o.type).run P w with
 | ok d w' => rw [hr] at h; exact h.elim
 | halt x w' => rw [hr] at h; exact h.elim
def aBe {r : AD} {n : Nat} {P : AL} {f : FuncId} {args : Array AH} {w : AI} {R : Ending → AI → Prop} (h : Calls P f args w R) : CallsIn (Fr r) n P f args w R :=
 (callsIn_wide (n := n)).2 h
def aF2 {P : AL} {r : AD} {n : Nat} {D : List Deferred} {o : Oper} {e : Env} {a : Act} {w : AI} {K : AH → AI → Prop} {K' : Act → AI → Prop} {R : Exit → Act → AI → Prop}
  (ha : Rep n D e a) (h : opW P o e w K) (hk : ∀ v w', K v w' → K' (a.put o.dst v) w') : o.wpIn (Fr r) 0 P a w K' R := by
 refine ⟨fun _ _ => trivial, ?_⟩
 rw [Oper.semAt_eq _ _ _ (fun c => aF8 h c), ha.eval]
 unfold opW at h
 split at h
 ·rename_i v w' hr; rw [hr]; exact hk _ _ h
 ·rename_i w' hr; rw [hr]; exact hk _ _ h
 ·rename_i f args w' hr
  rw [hr]
  refine ⟨fun h => (by cases h), aBe (h.mono ?_)⟩
  rintro ex w'' ⟨v, rfl, hv⟩
  exact hk _ _ hv
 ·exact h.elim
def Oper.wp_in {P : AL} {r : AD} {o : Oper} {a : Act} {w : AI} {K : Act → AI → Prop} {R : Exit → Act → AI → Prop} (ho : ∀ c, o.op ≠ .defer c)
    (h : o.wp P a w K R) : o.wpIn (Fr r) 0 P a w K R := by
  refine ⟨fun _ _ => trivial, ?_⟩
  rw [Oper.semAt_eq _ _ _ ho]
  unfold Oper.wp at h
  generalize (execOp a.eval o).run P w = q at h ⊢
  cases q with
  | ok x w' =>
    cases x <;> simp only [Oper.upon] at h <;>
      first
        | exact h
        | exact ⟨fun h => (by cases h), aBe h⟩
        | exact h.elim
        | (refine ⟨fun h => (by cases h), fun c cs _ => ?_⟩
           obtain ⟨v, w2, h1, h2⟩ := h c cs
           exact ⟨v, w2, h1, stepsIn_wide.2 h2⟩)
  | halt x w' => cases x <;> simp only [Oper.upon] at h <;> first | exact h | exact h.elim
def pY (o : Oper) : Bool := match o.op with
 | .defer _ => false
 | _ => true
def aFh {o : Oper} (h : pY o = true) (c : Call) : o.op ≠ .defer c := by
 intro ho; simp only [pY, ho] at h; cases h
def aPp {P : AL} {r : AD} {ops : Array Oper} {i : Nat} {a : Act} {w : AI} {K : Act → AI → Prop} {R : Exit → Act → AI → Prop}
  (hd : ops.all pY = true) (hL : ¬ LetsOut R) (h : wpOp P ops R i K a w) : wpOpIn (Fr r) 0 P ops R i K a w := by
 unfold wpOp at h
 unfold wpOpIn
 cases ho : ops[i]? with
 | none => rw [ho] at h; exact h
 | some o =>
  rw [ho] at h
  simp only at h ⊢
  have h1 : pY o = true := Array.all_eq_true'.1 hd o (Array.mem_of_getElem? ho)
  split
  ·rename_i hw
   rw [if_pos hw] at h
   rcases h with h | h
   ·exact Oper.wp_in (aFh h1) h
   ·exact absurd h.2 hL
  ·rename_i hw
   rw [if_neg hw] at h
   exact ⟨fun _ _ => trivial, h⟩
def aEX {P : AL} {r : AD} {md : Region.Mode} {ops : Array Oper} {R : Exit → Act → AI → Prop} (hd : ops.all pY = true) (hL : ¬ LetsOut R) :
  ∀ (fuel : Nat) (listed : Array Bool) (a : Act) (w : AI), wpAny P md ops R fuel listed a w → wpAnyIn (Fr r) 0 P md ops R fuel listed a w
 | 0, _, _, _, h => h
 | fuel + 1, _, _, _, h => ⟨h.1, fun i hi => wpOpIn_mono (fun a' w' h' => aEX hd hL fuel _ a' w' h') (aPp hd hL (h.2 i hi))⟩
def Q.noOut {n : Nat} {D : List Deferred} {w0 : AI} {ms : AE} {k : dS} : ¬ LetsOut (Q n D w0 ms k) := by
 rintro ⟨_, _, _, _, _, _, h⟩
 exact h
def aIT {P : AL} {n : Nat} {D : List Deferred} {o : Oper} {e : Env} {a : Act} {w : AI} {K : AH → AI → Prop} {K' : Act → AI → Prop} {R : Exit → Act → AI → Prop}
  (ha : Rep n D e a) (h : opW P o e w K) (hk : ∀ v w', K v w' → K' (a.put o.dst v) w') : o.wp P a w K' R := by
 unfold Oper.wp
 rw [ha.eval]
 unfold opW at h
 split at h
 ·rename_i v w' hr; rw [hr]; exact hk _ _ h
 ·rename_i w' hr; rw [hr]; exact hk _ _ h
 ·rename_i f args w' hr
  rw [hr]
  refine h.mono ?_
  rintro ex w'' ⟨v, rfl, hv⟩
  exact hk _ _ hv
 ·exact h.elim
def gdB (ops : List Oper) (e : Env) (o : Oper) : Bool :=
 match o.guard with
 | none => true
 | some (j, want) => match (ops[j]?).bind (·.dst) with
  | some d => match e d with
   | .bool b => b == want
   | _ => false
  | none => false
def tD {n : Nat} {D : List Deferred} {ops : List Oper} {e : Env} {a : Act} {o : Oper} (ha : Rep n D e a) : Region.wanted o (yielded ops.toArray a.tmps) = gdB ops e o := by
 unfold Region.wanted gdB yielded
 cases hg : o.guard with
 | none => rfl
 | some p =>
  obtain ⟨j, want⟩ := p
  simp only [cy]
  cases hd : (ops[j]?).bind (·.dst) with
  | none => simp
  | some d =>
   simp only [Option.bind_some]
   have hl : e d = a.tmps.getD d undef := by rw [ha.look]
   rw [hl]
   rw [fw]
   cases hx : a.tmps[d]? with
   | none => simp [undef]
   | some v =>
    simp only [gj]
    cases v <;> simp
def L1 (Γ : Ctx) (ops l : List Oper) (k : dS) (e : Env) (H : aB) : Prop :=
 ∀ a w, Rep Γ.n Γ.D e a → St Γ.w0 Γ.ms H w → wpListIn (Fr Γ.r) 0 Γ.P ops.toArray (Q Γ.n Γ.D Γ.w0 Γ.ms k) l a w
section rules
variable {Γ : Ctx} {k : dS} {e : Env} {H : aB} {ops rest : List Oper} {o : Oper}
def aNa {id : Nat} {l : List Oper} (h : L1 Γ l l k e H) : C Γ (.region id l.toArray false) k e H :=
 fun a w ha hw => wpIn_region_lit (h a w ha hw)
def aR6 (h : k.N e H) : L1 Γ ops [] k e H := fun _ _ ha hw => wpListIn_nil ⟨e, H, ha, hw, h⟩
def aHg {K : AH → aB → Prop} (hg : gdB ops e o = true) (hd : cJ Γ.n o.dst = true)
  (h : ∀ w, St Γ.w0 Γ.ms H w → opW Γ.P o e w (fun v w' => ∃ H', St Γ.w0 Γ.ms H' w' ∧ K v H'))
  (hk : ∀ v H', K v H' → L1 Γ ops rest k (e.put o.dst v) H') : L1 Γ ops (o :: rest) k e H := by
 intro a w ha hw
 unfold wpListIn
 rw [tD ha, if_pos hg]
 exact (aF2 ha (h w hw) fun v w' ⟨H', h1, h2⟩ => hk v H' h2 _ _ (ha.put hd v) h1)
def aCq {v : AH} (hl : bH Γ.P e o = some v) (hg : gdB ops e o = true) (hd : cJ Γ.n o.dst = true)
  (h : L1 Γ ops rest k (e.put o.dst v) H) : L1 Γ ops (o :: rest) k e H :=
 aHg (K := fun u H' => u = v ∧ H' = H) hg hd (fun _ hw => aKm hl ⟨H, hw, rfl, rfl⟩) (by rintro _ _ ⟨rfl, rfl⟩; exact h)
def aRd {b : Bool} (hl : bH Γ.P e o = some (.bool b)) (hg : gdB ops e o = true) (hd : cJ Γ.n o.dst = true)
  (ht : b = true → L1 Γ ops rest k (e.put o.dst (.bool true)) H) (hf : b = false → L1 Γ ops rest k (e.put o.dst (.bool false)) H) : L1 Γ ops (o :: rest) k e H := by
 cases b
 ·exact aCq hl hg hd (hf rfl)
 ·exact aCq hl hg hd (ht rfl)
def aQp (hg : gdB ops e o = false) (hd : cJ Γ.n o.dst = true)
  (h : L1 Γ ops rest k (e.put o.dst undef) H) : L1 Γ ops (o :: rest) k e H := by
 intro a w ha hw
 unfold wpListIn
 rw [tD ha, if_neg (by rw [hg]; simp)]
 exact ⟨fun _ _ => trivial, h _ _ (ha.put hd _) hw⟩
end rules
def evs (e : Env) : AF → Option (List AH)
 | [] => some []
 | x :: r => match vnf (ev e x), evs e r with
  | some v, some vs => some (v :: vs)
  | _, _ => none
def sZ {e : Env} : ∀ {l : AF} {vs : AA}, evs e l = some vs → l.map (ev e) = vs
 | [], _, h => by cases h; rfl
 | x :: r, vs, h => by
  simp only [evs] at h
  split at h
  ·rename_i v us h1 h2
   cases h
   simp only [be, aK h1, sZ h2]
  ·cases h
def cL (P : AL) (f : Nat) : Bool :=
 match P.funcs[f]? with
 | some fn => !(fn.name == "runtime.NumGoroutine") && !fn.body.isNone
 | none => false
def aMx {P : AL} {e : Env} {f : Nat} {l : AF} {ts : Array AJ} {d : AD} {t : AJ} {pos : String} {af : AG} {g : Option (Nat × Bool)}
  (hc : cL P f = true) (w : AI) :
  (execOp (ev e) ⟨d, .call ⟨.value (.func f), l.toArray, ts⟩, t, pos, af, g⟩).run P w = .ok (.enter f (l.map (ev e)).toArray) w := by
 unfold cL at hc
 split at hc
 ·rename_i fn hf
  simp only [al, dw] at hc
  obtain ⟨h1, h2⟩ := hc
  have hs : (program : Sem AL) = .program .pure := rfl
  have h3 : ¬ fn.name = "runtime.NumGoroutine" := by simpa using h1
  have h4 : ¬ fn.body = none := by
   intro hx; rw [hx] at h2; cases h2
  simp [execOp, resolve, Deferred.ofValue, ev, invoke, callFunc, bind, Sem.bind, Sem.run, hf, h3, h4, pure, hs]
 ·cases hc
def aC (P : AL) (f : Nat) (args : AA) (w : AI) (ms : AE) (R : AH → aB → Prop) : Prop :=
 Calls P f args.toArray w (fun ex w' => ∃ v H, ex = .returned v ∧ St w ms H w' ∧ R v H)
def aC.mono {P : AL} {f : Nat} {args : AA} {w : AI} {ms : AE} {R R' : AH → aB → Prop} (h : aC P f args w ms R) (hr : ∀ v H, R v H → R' v H) : aC P f args w ms R' :=
 Calls.mono h fun _ _ ⟨v, H, h1, h2, h3⟩ => ⟨v, H, h1, h2, hr _ _ h3⟩
section rules
variable {Γ : Ctx} {k : dS} {e : Env} {ops rest : List Oper}
 {d : AD} {t : AJ} {pos : String} {af : AG} {g : Option (Nat × Bool)} {f : Nat} {l : AF} {ts : Array AJ}
def aFj {F G : aB} {vs : AA} {w : AI} (ms2 : AE) (hc : cL Γ.P f = true) (hv : evs e l = some vs) {R : AH → aB → Prop}
  (hw : St Γ.w0 Γ.ms (F ++ G) w) (hms : ∀ b ∈ ms2, ∃ o, (b, o) ∈ F) (hf : aC Γ.P f vs w ms2 R) {K : AH → AI → Prop}
  (hk : ∀ v H' w', R v H' → St w ms2 H' w' → St Γ.w0 Γ.ms (H' ++ G) w' → K v w') :
  opW Γ.P ⟨d, .call ⟨.value (.func f), l.toArray, ts⟩, t, pos, af, g⟩ e w K := by
 refine zI (aMx hc w) ?_
 rw [sZ hv]
 refine Calls.mono hf ?_
 rintro ex w' ⟨v, H', rfl, h1, h2⟩
 exact ⟨v, rfl, hk v H' w' h2 h1 (hw.call hms h1)⟩
end rules
def aCu (args : AA) : Env := fun t => args.getD t undef
def qH (rs : List ResultVar) (e : Env) : Sem AH := do
 let vs ← rs.toArray.mapM fun
  | .tmp t => pure (e t)
  | .cell a t => do loadVar t (← asAddr (e a))
 pure (if h : vs.size = 1 then vs[0] else .tuple vs)
def jY (P : AL) (rs : List ResultVar) (e : Env) (w : AI) (v : AH) : Prop := (qH rs e).run P w = .ok v w
def xR {P : AL} {t : Nat} {e : Env} {w : AI} {v : AH} (h : e t = v) : jY P [.tmp t] e w v := by
 simp [jY, qH, h, go_sem]
def eL {P : AL} {e : Env} {w : AI} : jY P [] e w (.tuple #[]) := by
 simp [jY, qH, go_sem]
def eD {P : AL} {t u : Nat} {e : Env} {w : AI} {v1 v2 : AH} (h1 : e t = v1) (h2 : e u = v2) : jY P [.tmp t, .tmp u] e w (.tuple #[v1, v2]) := by
 simp [jY, qH, h1, h2, go_sem]
def nE (Γ : Ctx) (rs : List ResultVar) (R : AH → aB → Prop) (e : Env) (H : aB) : Prop :=
 ∀ w, St Γ.w0 Γ.ms H w → ∃ v H', jY Γ.P rs e w v ∧ St Γ.w0 Γ.ms H' w ∧ R v H'
def eQ {Γ : Ctx} {rs : List ResultVar} {R : AH → aB → Prop} {e : Env} {H H' : aB} {v : AH} (hr : ∀ w, St Γ.w0 Γ.ms H w → jY Γ.P rs e w v)
  (hh : ∀ w, St Γ.w0 Γ.ms H w → St Γ.w0 Γ.ms H' w) (h : R v H') : nE Γ rs R e H := fun w hw => ⟨v, H', hr w hw, hh w hw, h⟩
def aIl (Γ : Ctx) (rs : List ResultVar) (R : AH → aB → Prop) : dS := ⟨nE Γ rs R, nE Γ rs R, []⟩
def wW {fn : Func} {n : Nat} {D : List Deferred} {e : Env} {a : Act} (ha : Rep n D e a) : results fn a.tmps = qH fn.results.toList e := by
 unfold results qH
 simp only [Array.toArray_toList]
 have : ∀ t, a.tmps.getD t undef = e t := fun t => by rw [ha.look]
 simp only [this]
 rfl
def aEA {n : Nat} {args : AA} (hn : args.length ≤ n) : Rep n [] (aCu args) { tmps := args.toArray ++ Array.replicate (n - args.toArray.size) undef, defers := [] } := by
 refine ⟨rfl, by simp; omega, ?_⟩
 funext t
 simp only [aCu, fw, co]
 by_cases h : t < args.length
 ·rw [Array.getElem?_append_left (by simpa using h)]
  simp
 ·rw [Array.getElem?_append_right (by simpa using h), iu, da (by omega)]
  split <;> rfl
def mH {P : AL} {f : Nat} {fn : Func} {c : Code} {args : AA} {w : AI} {ms : AE} {R : AH → aB → Prop} {n : Nat} {H : aB}
  (hf : P.funcs[f]? = some fn) (hb : fn.body = some c) (hn : fn.ntmps = n) (hl : Nat.ble args.length n = true) (hH : St w ms H w)
  (h : C ⟨P, n, w, ms, none, []⟩ c (aIl ⟨P, n, w, ms, none, []⟩ fn.results.toList R) (aCu args) H) : aC P f args w ms R := by
 subst hn
 have hl' : args.length ≤ fn.ntmps := ag hl
 refine (callsIn_wide (n := 0)).1 (callsIn_of_wp hf hb trivial (wpIn_mono (h _ w (aEA hl') hH) ?_))
 rintro ex a' w' ⟨e', L', h1, h2, h3⟩
 have fin : ∀ v H', jY P fn.results.toList e' w' v → St w ms H' w' → R v H' → a'.defers = [] ∧ ∃ v, (results fn a'.tmps).run P w' = .ok v w' ∧ ∃ v' H, Ending.returned v = .returned v' ∧ St w ms H w' ∧ R v' H :=
  fun v H' g1 g2 g3 => ⟨h1.defers, v, by rw [wW h1]; exact g1, v, H', rfl, g2, g3⟩
 cases ex <;> simp only [dS.at, aIl, nE, lS] at h3
 case normal => obtain ⟨v, H', g1, g2, g3⟩ := h3 w' h2; exact fin v H' g1 g2 g3
 case ret => obtain ⟨v, H', g1, g2, g3⟩ := h3 w' h2; exact fin v H' g1 g2 g3
section
variable {P : AL} {ops : Array Oper} {R : Exit → Act → AI → Prop} {md : Region.Mode} {S : AI → Prop} {need : Nat → Bool}
def aA5 (P : AL) (md : Region.Mode) (ops : Array Oper) (R : Exit → Act → AI → Prop) (S : AI → Prop) (need : Nat → Bool) : Nat → Array Bool → Act → AI → Prop
 | 0, listed, a, w => Region.ready md ops listed = [] ∧ R .normal a w
 | fuel + 1, listed, a, w =>
  (Region.ready md ops listed = [] → R .normal a w) ∧
  ∀ i ∈ Region.ready md ops listed, wpOp P ops R i (fun a' w' => (need i = true → S w → S w') ∧ aA5 P md ops R S need fuel (listed.setIfInBounds i true) a' w') a w
def aE8 : ∀ (fuel : Nat) (listed : Array Bool) (a : Act) (w : AI), aA5 P md ops R S need fuel listed a w → wpAny P md ops R fuel listed a w
 | 0, _, _, _, h => h
 | fuel + 1, _, _, _, h => ⟨h.1, fun i hi => wpOp_mono (fun a' w' h' => aE8 fuel _ a' w' h'.2) (h.2 i hi)⟩
def oO (md : Region.Mode) (ops : Array Oper) (listed : Array Bool) : Prop :=
 ∀ j oj, ops[j]? = some oj → listed.getD j false = true → ∀ e ∈ oj.after, Region.binds md e = true → listed.getD e.on false = true
def oO.add {listed : Array Bool} (h : oO md ops listed) {i : Nat} (hi : i ∈ Region.ready md ops listed) : oO md ops (listed.setIfInBounds i true) := by
 intro j oj hj hl e he hb
 by_cases hji : j = i
 ·subst hji
  obtain ⟨_, oj', hoj', hall⟩ := mem_ready.1 hi
  rw [hj] at hoj'
  cases hoj'
  exact getD_set_true (hall e he hb)
 ·rw [getD_set_ne false (Ne.symm hji)] at hl
  exact getD_set_true (h j oj hj hl e he hb)
def oO.start (n : Nat) : oO md ops (Array.replicate n false) := by
 intro j oj _ hl
 exfalso
 rw [fw, iu] at hl
 split at hl <;> simp at hl
def kQ (md : Region.Mode) (ops : Array Oper) (i : Nat) : Nat → Nat → Bool
 | 0, _ => false
 | fuel + 1, j => match ops[j]? with
  | some oj => oj.after.any fun e => Region.binds md e && (e.on == i || kQ md ops i fuel e.on)
  | none => false
def yI {listed : Array Bool} {i : Nat} (hc : oO md ops listed) : ∀ (fuel j : Nat), kQ md ops i fuel j = true → (∀ oj, ops[j]? = some oj → ∀ e ∈ oj.after, Region.binds md e = true → listed.getD e.on false = true) → listed.getD i false = true
 | 0, _, h, _ => by simp [kQ] at h
 | fuel + 1, j, h, hd => by
  simp only [kQ] at h
  split at h
  ·rename_i oj hoj
   obtain ⟨e, he, hb⟩ := Array.any_eq_true'.1 h
   simp only [al, ee, beq_iff_eq] at hb
   have h1 := hd oj hoj e he hb.1
   rcases hb.2 with h2 | h2
   ·rw [← h2]; exact h1
   ·exact yI hc fuel e.on h2 (fun o' ho' => hc e.on o' ho' h1)
  ·cases h
def aH8 (ld : Bool) {i : Nat} {oi : Oper} {v : AH} (hi : ops[i]? = some oi) (hsel : ∀ (j : Nat) (o : Oper) cs b, ops[j]? = some o → o.op ≠ .select cs b)
  (hR : ∀ c a w, R (.panic c) (a.put oi.dst v) w → R (.panic c) a w) :
  ∀ (fuel : Nat) (listed : Array Bool) (a : Act) (w : AI),
   (∀ j oj, ops[j]? = some oj → j ≠ i → listed.getD j true = false → (∀ e ∈ oj.after, Region.binds md e = true → e.on ≠ i) → oi.apart ops oj = true) →
   (ld = true → ∀ j oj, ops[j]? = some oj → j ≠ i → listed.getD j true = false → kQ md ops i ops.size j = false → need j = true) → oO md ops listed →
   i ∈ Region.ready md ops listed → YieldsIf P ops (fun w => ld = true → S w) oi v a → (ld = true → S w) →
   aA5 P md ops R S need fuel (listed.setIfInBounds i true) (a.put oi.dst v) w → aA5 P md ops R S need (fuel + 1) listed a w := by
 intro fuel
 induction fuel with
 | zero =>
  intro listed a w _ _ _ hr hy hS H
  refine ⟨fun h => (by rw [h] at hr; cases hr), fun j hj => ?_⟩
  by_cases hji : j = i
  ·subst hji; exact hy.wpOp hi hS ⟨fun _ h => h, H⟩
  ·have := ready_mono hj hji
   rw [H.1] at this
   cases this
 | succ fuel ih =>
  intro listed a w hfree hkeep hcl hr hy hS H
  refine ⟨fun h => (by rw [h] at hr; cases hr), fun j hj => ?_⟩
  by_cases hji : j = i
  ·subst hji; exact hy.wpOp hi hS ⟨fun _ h => h, H⟩
  ·have h1 := H.2 j (ready_mono hj hji)
   obtain ⟨hjun, oj, hoj, hall⟩ := mem_ready.1 hj
   have hnot : ∀ e ∈ oj.after, Region.binds md e = true → e.on ≠ i := fun e he hb heq => by
    have h1 := hall e he hb
    have h0 := (mem_ready.1 hr).1
    rw [heq] at h1
    rcases dh i listed.size with h' | h'
    ·simp [h'] at h0 h1; rw [h0] at h1; cases h1
    ·simp [d8 h'] at h1
   have hap := hfree j oj hoj hji hjun hnot
   have hneed : ld = true → need j = true := fun hld => by
    refine hkeep hld j oj hoj hji hjun ?_
    cases hx : kQ md ops i ops.size j
    ·rfl
    ·exfalso
     have h1 := yI hcl ops.size j hx (fun o' ho' => by rw [hoj] at ho'; cases ho'; exact hall)
     have h0 := (mem_ready.1 hr).1
     rcases dh i listed.size with h' | h'
     ·simp [h'] at h0 h1; rw [h0] at h1; cases h1
     ·simp [d8 h'] at h1
   have h2 := wpOp_putIf hoj hap (fun cs b => hsel i oi cs b hi) (fun cs b => hsel j oj cs b hoj) hR hy h1
   have hfree' : ∀ k ok, ops[k]? = some ok → k ≠ i → (listed.setIfInBounds j true).getD k true = false →
     (∀ e ∈ ok.after, Region.binds md e = true → e.on ≠ i) → oi.apart ops ok = true := fun k ok hk hki hun hno => by
    refine hfree k ok hk hki ?_ hno
    by_cases hjk : j = k
    ·subst hjk; exact hjun
    ·rw [getD_set_ne true hjk] at hun; exact hun
   have hkeep' : ld = true → ∀ k ok, ops[k]? = some ok → k ≠ i → (listed.setIfInBounds j true).getD k true = false → kQ md ops i ops.size k = false → need k = true := fun hld k ok hk hki hun hno => by
    refine hkeep hld k ok hk hki ?_ hno
    by_cases hjk : j = k
    ·subst hjk; exact hjun
    ·rw [getD_set_ne true hjk] at hun; exact hun
   refine wpOp_mono (fun a' w' h3 => ⟨h3.2.1, ih (listed.setIfInBounds j true) a' w' hfree' hkeep' (hcl.add hj) (ready_mono hr (Ne.symm hji)) h3.1 (fun hld => h3.2.1 (hneed hld) (hS hld)) ?_⟩) h2
   rw [Array.setIfInBounds_comm _ _ hji]
   exact h3.2.2
def aB0 (o : Oper) : Bool := match o.op with
 | .load _ _ => true
 | _ => false
def aB8 (ops : Array Oper) (i : Nat) : Bool := match ops[i]? with
 | some o => aB0 o
 | none => true
inductive hQ where
 | done
 | step (l : Bool) (i : Nat) (r : hQ)
 | fork (i : Nat) (r o : hQ)
 | stop
def hQ.heads : hQ → AE
 | .fork i _ o => i :: o.heads
 | _ => []
def mE (P : AL) (ops : Array Oper) (R : Exit → Act → AI → Prop) (S : AI → Prop) (need : Nat → Bool) : hQ → Act → AI → Prop
 | .done, a, w => R .normal a w
 | .step true i r, a, w => ∃ o v, ops[i]? = some o ∧ YieldsIf P ops (fun w => aB0 o = true → S w) o v a ∧ mE P ops R S need r (a.put o.dst v) w
 | .step false i r, a, w => wpOp P ops R i (fun a' w' => (need i = true → S w → S w') ∧ mE P ops R S need r a' w') a w
 | .fork i r o, a, w => wpOp P ops R i (fun a' w' => (need i = true → S w → S w') ∧ mE P ops R S need r a' w') a w ∧ mE P ops R S need o a w
 | .stop, _, _ => True
def aDQ (md : Region.Mode) (ops : Array Oper) (need : Nat → Bool) (listed : Array Bool) (i : Nat) : Bool :=
 (List.range ops.size).all fun j => j == i || listed.getD j true || kQ md ops i ops.size j || need j
def gO (md : Region.Mode) (ops : Array Oper) (need : Nat → Bool) : hQ → Nat → Bool → Array Bool → Bool → Bool
 | .done, _, top, listed, _ => top && (Region.ready md ops listed).isEmpty
 | .step true i r, fuel + 1, top, listed, s => top && (!(aB8 ops i) || (s && aDQ md ops need listed i)) && (Region.ready md ops listed).contains i && Region.free md ops listed i && gO md ops need r fuel true (listed.setIfInBounds i true) s
 | .step false i r, fuel + 1, top, listed, s => top && (Region.ready md ops listed == [i]) && gO md ops need r fuel true (listed.setIfInBounds i true) (s && need i)
 | .fork i r o, fuel + 1, top, listed, s => (!top || Region.ready md ops listed == i :: o.heads) && (Region.ready md ops listed).contains i && gO md ops need r fuel true (listed.setIfInBounds i true) (s && need i) && gO md ops need o (fuel + 1) false listed s
 | .stop, _, top, _, _ => !top
 | .step _ _ _, 0, _, _, _ => false
 | .fork _ _ _, 0, _, _, _ => false
def aHZ {listed : Array Bool} {i : Nat} (h : aDQ md ops need listed i = true) (j : Nat) (oj : Oper) (hj : ops[j]? = some oj) (hne : j ≠ i) (hun : listed.getD j true = false)
  (hno : kQ md ops i ops.size j = false) : need j = true := by
 have hlt : j < ops.size := by
  rcases dh j ops.size with h1 | h1
  ·exact h1
  ·rw [d8 h1] at hj; cases hj
 have := List.all_eq_true.1 h j (List.mem_range.2 hlt)
 simpa only [hun, hno, ee, beq_iff_eq, hne, Bool.or_false, Bool.false_eq_true, false_or] using this
def aGa (hs : Region.noSelect ops = true) (hR : ∀ c a w, ¬ R (.panic c) a w) : ∀ (pl : hQ) (fuel : Nat) (listed : Array Bool) (s : Bool) (a : Act) (w : AI), oO md ops listed → (s = true → S w) → mE P ops R S need pl a w →
  (gO md ops need pl fuel true listed s = true → aA5 P md ops R S need fuel listed a w) ∧
  (gO md ops need pl (fuel + 1) false listed s = true → ∀ j ∈ pl.heads, wpOp P ops R j (fun a' w' => (need j = true → S w → S w') ∧ aA5 P md ops R S need fuel (listed.setIfInBounds j true) a' w') a w) := by
 intro pl
 induction pl with
 | done =>
  intro fuel listed s a w _ _ h
  refine ⟨fun hB => ?_, fun _ j hj => by cases hj⟩
  simp only [gO, f2, List.isEmpty_iff] at hB
  cases fuel with
  | zero => exact ⟨hB, h⟩
  | succ fuel => exact ⟨fun _ => h, fun j hj => by rw [hB] at hj; cases hj⟩
 | stop =>
  intro fuel listed s a w _ _ _
  exact ⟨fun hB => by simp [gO] at hB, fun _ j hj => by cases hj⟩
 | step l i r ih =>
  intro fuel listed s a w hcl hS h
  refine ⟨fun hB => ?_, fun _ j hj => by cases hj⟩
  cases fuel with
  | zero => simp [gO] at hB
  | succ fuel =>
   cases l with
   | true =>
    simp only [gO, f2, al] at hB
    obtain ⟨⟨⟨h1, h2⟩, h3⟩, h5⟩ := hB
    obtain ⟨o, v, ho, hy, hr⟩ := h
    have h4 : aB0 o = true → s = true ∧ aDQ md ops need listed i = true := fun hx => by
     simp only [aB8, ho, hx, ii, Bool.false_or, al] at h1
     exact h1
    refine aH8 (aB0 o) ho (Region.noSelect_spec hs) (fun c a w hc => absurd hc (hR c _ w)) fuel listed a w (fun j oj hj hne hun hno => Region.free_spec ho h3 j oj hj hne hun hno)
     (fun hx j oj hj hne hun hno => aHZ (h4 hx).2 j oj hj hne hun hno) hcl (by simpa using h2) hy (fun hx => hS (h4 hx).1) ?_
    exact (ih fuel _ s _ w (hcl.add (by simpa using h2)) hS hr).1 h5
   | false =>
    simp only [gO, f2, al, beq_iff_eq] at hB
    obtain ⟨h1, h2⟩ := hB
    refine ⟨fun h0 => (by rw [h1] at h0; cases h0), fun j hj => ?_⟩
    rw [h1] at hj
    have : j = i := by simpa using hj
    subst this
    refine wpOp_mono (fun a' w' h3 => ⟨h3.1, (ih fuel _ (s && need j) a' w' (hcl.add (by rw [h1]; simp)) ?_ h3.2).1 h2⟩) h
    intro hx
    simp only [al] at hx
    exact h3.1 hx.2 (hS hx.1)
 | fork i r o ih1 ih2 =>
  intro fuel listed s a w hcl hS h
  have key : ∀ fuel top, gO md ops need (.fork i r o) (fuel + 1) top listed s = true → ∀ j ∈ (hQ.fork i r o).heads, wpOp P ops R j (fun a' w' => (need j = true → S w → S w') ∧ aA5 P md ops R S need fuel (listed.setIfInBounds j true) a' w') a w := by
   intro fuel top hB j hj
   simp only [gO, al] at hB
   obtain ⟨⟨⟨_, h2⟩, h3⟩, h4⟩ := hB
   simp only [hQ.heads, eu] at hj
   rcases hj with rfl | hj
   ·refine wpOp_mono (fun a' w' h5 => ⟨h5.1, (ih1 fuel _ (s && need j) a' w' (hcl.add (by simpa using h2)) ?_ h5.2).1 h3⟩) h.1
    intro hx
    simp only [al] at hx
    exact h5.1 hx.2 (hS hx.1)
   ·exact (ih2 fuel listed s a w hcl hS h.2).2 h4 j hj
  refine ⟨fun hB => ?_, fun hB => key fuel false hB⟩
  cases fuel with
  | zero => simp [gO] at hB
  | succ fuel =>
   have hk := key fuel true hB
   simp only [gO, al, ii, Bool.false_or, beq_iff_eq] at hB
   have h1 := hB.1.1.1
   refine ⟨fun h0 => (by rw [h1] at h0; cases h0), fun j hj => hk j ?_⟩
   rw [h1] at hj
   exact hj
def aCn {id : Nat} {a : Act} {w : AI} (pl : hQ) (hm : P.follows .mixedOrders = true) (hs : Region.noSelect ops = true)
  (hB : gO .any ops need pl ops.size true (Array.replicate ops.size false) true = true) (hR : ∀ c a w, ¬ R (.panic c) a w) (hS : S { w with drawn := w.drawn + 1 })
  (hd : ops.all pY = true) (hL : ¬ LetsOut R) {r : AD} (h : mE P ops R S need pl a { w with drawn := w.drawn + 1 }) : (Code.region id ops true).wpIn (Fr r) 0 P R a w :=
 wpIn_region_any hm (aEX hd hL _ _ _ _ (aE8 _ _ _ _ ((aGa hs hR pl _ _ true a _ (oO.start _) (fun _ => hS) h).1 hB)))
end
def wT (l : Array Oper) : Bool := Region.noSelect l && l.all pY
def L2 (Γ : Ctx) (ops : List Oper) (S : AI → Prop) (need : AE) (pl : hQ) (k : dS) (e : Env) (H : aB) : Prop :=
 ∀ a w, Rep Γ.n Γ.D e a → St Γ.w0 Γ.ms H w → mE Γ.P ops.toArray (Q Γ.n Γ.D Γ.w0 Γ.ms k) S (fun i => need.any (Nat.beq i)) pl a w
section rules
variable {Γ : Ctx} {k : dS} {e : Env} {H : aB} {ops : List Oper} {S : AI → Prop} {need : AE} {pl : hQ} {i : Nat}
 {d : AD} {op : Op} {t : AJ} {pos : String} {af : AG} {g : Option (Nat × Bool)}
def Q.noPanic {n : Nat} {D : List Deferred} {w0 : AI} {ms : AE} {k : dS} (c : List PanicEntry) (a : Act) (w : AI) : ¬ Q n D w0 ms k (.panic c) a w :=
 fun ⟨_, _, _, _, h⟩ => h
def fN (Γ : Ctx) (F : aB) (w : AI) : Prop := ∃ G, St Γ.w0 Γ.ms G w ∧ ∀ x ∈ F, x ∈ G
def gM {id : Nat} {l : List Oper} (F : aB) (need : AE) (pl : hQ) (hm : Γ.P.follows .mixedOrders = true) (hs : wT l.toArray = true)
  (hB : gO .any l.toArray (fun i => need.any (Nat.beq i)) pl l.toArray.size true (Array.replicate l.toArray.size false) true = true)
  (hF : ∀ x ∈ F, x ∈ H) (h : L2 Γ l (fN Γ F) need pl k e H) : C Γ (.region id l.toArray true) k e H :=
 fun a _ ha hw => by
  simp only [wT, al] at hs
  exact aCn pl hm hs.1 hB (fun c a w => Q.noPanic c a w) ⟨H, hw.drew, hF⟩ hs.2 Q.noOut (h a _ ha hw.drew)
def lC {r o : hQ} (h1 : L2 Γ ops S need (.step false i r) k e H) (h2 : L2 Γ ops S need o k e H) : L2 Γ ops S need (.fork i r o) k e H :=
 fun a w ha hw => ⟨h1 a w ha hw, h2 a w ha hw⟩
def vQ : L2 Γ ops S need .stop k e H := fun _ _ _ _ => trivial
def aRQ (h : k.N e H) : L2 Γ ops S need .done k e H := fun _ _ ha hw => ⟨e, H, ha, hw, h⟩
def rX {v : AH} (ho : ops[i]? = some ⟨d, op, t, pos, af, g⟩) (hg : gdB ops e ⟨d, op, t, pos, af, g⟩ = true) (hd : cJ Γ.n d = true)
  (hl : ∀ w, (aB0 ⟨d, op, t, pos, af, g⟩ = true → S w) → (execOp (ev e) ⟨d, op, t, pos, af, g⟩).run Γ.P w = .ok (.value v) w)
  (h : L2 Γ ops S need pl k (e.put d v) H) : L2 Γ ops S need (.step true i pl) k e H := by
 intro a w ha hw
 refine ⟨_, v, by rw [cy]; exact ho, .inl ⟨by rw [tD ha]; exact hg, fun w hS => ?_⟩, h _ _ (ha.put hd v) hw⟩
 rw [ha.eval]; exact hl w hS
def nJ : AH → Bool
 | .tuple _ => false
 | _ => true
def aFU {P : AL} {e : Env} {o : Oper} {v : AH} (h : bH P e o = some v) (hv : nJ v = true) (w : AI) :
  (execOp (ev e) o).run P w = .ok (.value v) w := by
 rcases aDc h w with h1 | ⟨h1, h2⟩
 ·exact h1
 ·subst h2; cases hv
def pN {v : AH} (ho : ops[i]? = some ⟨d, op, t, pos, af, g⟩) (hl : bH Γ.P e ⟨d, op, t, pos, af, g⟩ = some v) (hv : nJ v = true)
  (hg : gdB ops e ⟨d, op, t, pos, af, g⟩ = true) (hd : cJ Γ.n d = true)
  (h : L2 Γ ops S need pl k (e.put d v) H) : L2 Γ ops S need (.step true i pl) k e H :=
 rX ho hg hd (fun w _ => aFU hl hv w) h
def aRi {b : Bool} (ho : ops[i]? = some ⟨d, op, t, pos, af, g⟩) (hl : bH Γ.P e ⟨d, op, t, pos, af, g⟩ = some (.bool b))
  (hg : gdB ops e ⟨d, op, t, pos, af, g⟩ = true) (hd : cJ Γ.n d = true)
  (ht : b = true → L2 Γ ops S need pl k (e.put d (.bool true)) H) (hf : b = false → L2 Γ ops S need pl k (e.put d (.bool false)) H) : L2 Γ ops S need (.step true i pl) k e H := by
 cases b
 ·exact pN ho hl rfl hg hd (hf rfl)
 ·exact pN ho hl rfl hg hd (ht rfl)
def aKo (ho : ops[i]? = some ⟨d, op, t, pos, af, g⟩) (hg : gdB ops e ⟨d, op, t, pos, af, g⟩ = false) (hd : cJ Γ.n d = true)
  (h : L2 Γ ops S need pl k (e.put d undef) H) : L2 Γ ops S need (.step true i pl) k e H := by
 intro a w ha hw
 exact ⟨_, undef, by rw [cy]; exact ho, .inr ⟨by rw [tD ha]; exact hg, rfl⟩, h _ _ (ha.put hd _) hw⟩
def aST {o : Oper} {K : AH → aB → Prop} (ho : ops[i]? = some o) (hg : gdB ops e o = true) (hd : cJ Γ.n o.dst = true)
  (h : ∀ w, St Γ.w0 Γ.ms H w → opW Γ.P o e w (fun v w' => ∃ H', St Γ.w0 Γ.ms H' w' ∧ K v H'))
  (hn : need.any (Nat.beq i) = true → ∀ v H' w', K v H' → St Γ.w0 Γ.ms H' w' → S w')
  (hk : ∀ v H', K v H' → L2 Γ ops S need pl k (e.put o.dst v) H') : L2 Γ ops S need (.step false i pl) k e H := by
 intro a w ha hw
 unfold mE wpOp
 rw [cy, ho]
 simp only
 rw [tD ha, if_pos hg]
 refine .inl (aIT ha (h w hw) ?_)
 rintro v w' ⟨H', h1, h2⟩
 exact ⟨fun hx _ => hn hx v H' w' h2 h1, hk v H' h2 _ _ (ha.put hd v) h1⟩
def aB7 {o : Oper} (ho : ops[i]? = some o) (hg : gdB ops e o = false) (hd : cJ Γ.n o.dst = true)
  (h : L2 Γ ops S need pl k (e.put o.dst undef) H) : L2 Γ ops S need (.step false i pl) k e H := by
 intro a w ha hw
 unfold mE wpOp
 rw [cy, ho]
 simp only
 rw [tD ha, if_neg (by rw [hg]; simp)]
 exact ⟨fun _ hS => hS, h _ _ (ha.put hd _) hw⟩
end rules
abbrev blk (l : AA) (t : AJ) : Obj := .cells l.toArray t (0, 0)
def qT : AH → Option (List AH)
 | .agg ⟨l⟩ => some l
 | .bool b => some [.bool b]
 | .int k n => some [.int k n]
 | .string s => some [.string s]
 | .pointer a => some [.pointer a]
 | .slice a n c => some [.slice a n c]
 | .map r => some [.map r]
 | .func f a b => some [.func f a b]
 | .nilFunc => some [.nilFunc]
 | .iface t v => some [.iface t v]
 | .nilIface => some [.nilIface]
 | _ => none
def nW {v : AH} {l : AA} (h : qT v = some l) : v.cells = l.toArray := by
 cases v <;> simp [qT] at h <;> subst h <;> simp [Value.cells]
def fE (l : AA) : Bool := l.all (·.oneCell')
def lF (P : AL) (t : AJ) : Bool :=
 match P.underlying t with
 | some (.struct _) => false
 | some (.array _ _) => false
 | some _ => true
 | none => false
def oC (P : AL) (t : AJ) : Bool :=
 match P.underlying t with
 | some (.struct _) => true
 | some (.array _ _) => true
 | _ => false
def fH (P : AL) (t : AJ) : AD := (P.info? t).map (·.size)
def aFZ {P : AL} {t : AJ} (h : lF P t = true) (w : AI) : (isAgg t).run P w = .ok false w := by
 unfold lF at h
 unfold isAgg
 rw [ak]
 split at h
 ·cases h
 ·cases h
 ·rename_i d hd1 hd2 hd
  rw [run_underlying hd w]
  simp only [ai]
  cases d <;> first | rfl | (exfalso; exact hd1 _ rfl) | (exfalso; exact hd2 _ _ rfl)
 ·cases h
def lE {P : AL} {t : AJ} (h : oC P t = true) (w : AI) : (isAgg t).run P w = .ok true w := by
 unfold oC at h
 unfold isAgg
 rw [ak]
 split at h
 ·rename_i hd; rw [run_underlying hd w]; rfl
 ·rename_i hd; rw [run_underlying hd w]; rfl
 ·cases h
def fM {P : AL} {t : AJ} {n : Nat} (h : fH P t = some n) (w : AI) : (sizeOf t).run P w = .ok n w := by
 unfold fH at h
 cases hq : P.info? t with
 | none => simp [hq] at h
 | some i =>
  have : i.size = n := by simpa [hq] using h
  simp [sizeOf, typeInfo, hq, this]
def iH {w : AI} {b off : Nat} {cs : Array AH} {t : AJ} {fr : Nat × Nat} (h : w.heap[b]? = some (.cells cs t fr)) : w.cell? ⟨b, off, none⟩ = cs[off]? := by
 simp [World.cell?, h]
def Row (w : AI) (b off : Nat) (l : AA) : Prop := ∀ j v, l[j]? = some v → w.cell? ⟨b, off + j, none⟩ = some v
def Row.of_blk {w : AI} {b off : Nat} {cs : Array AH} {t : AJ} {fr : Nat × Nat} {l : AA} (h : w.heap[b]? = some (.cells cs t fr)) (hl : ∀ j v, l[j]? = some v → cs[off + j]? = some v) : Row w b off l :=
 fun j v hv => by rw [iH h]; exact hl j v hv
def Row.all {w : AI} {b : Nat} {l : AA} {t : AJ} {fr : Nat × Nat} (h : w.heap[b]? = some (.cells l.toArray t fr)) : Row w b 0 l :=
 Row.of_blk h fun j v hv => by simpa using hv
def Row.nil (w : AI) (b off : Nat) : Row w b off [] := fun _ _ h => by simp at h
def Row.add {w : AI} {b off : Nat} {l : AA} (h : Row w b off l) (j : Nat) (v : AH) (hv : l[j]? = some v) : w.cell? ((⟨b, off, none⟩ : Addr).add j) = some v := by
 have hadd : (⟨b, off, none⟩ : Addr).add j = ⟨b, off + j, none⟩ := by unfold Addr.add; split <;> simp_all
 rw [hadd]; exact h j v hv
section
variable {Γ : Ctx} {e : Env} {H : aB} {d : AD} {ty : AJ} {pos : String} {af : AG} {g : Option (Nat × Bool)}
def Op1 (Γ : Ctx) (o : Oper) (e : Env) (H : aB) (K : AH → aB → Prop) : Prop :=
 ∀ w, St Γ.w0 Γ.ms H w → opW Γ.P o e w (fun v w' => ∃ H', St Γ.w0 Γ.ms H' w' ∧ K v H')
def St.own_blk {w0 w : AI} {ms : AE} {H : aB} (h : St w0 ms H w) {b : Nat} {o : Obj} (hm : (b, o) ∈ H) : w.heap[b]? = some o := h.holds _ hm
def dC {t : AJ} {x : AK} {v : AH} {l : AA} (hx : vnf (ev e x) = some v) (hl : qT v = some l) :
  Op1 Γ ⟨d, .box t x, ty, pos, af, g⟩ e H (fun u H' => ∃ b, u = .pointer (some ⟨b, 0, none⟩) ∧ H' = (b, blk l t) :: H) := by
 intro w hw
 refine cY (v := .pointer (some ⟨w.heap.size, 0, none⟩)) (w' := w.alloc (blk l t)) ?_ ⟨_, hw.alloc _, _, rfl, rfl⟩
 simp [execOp, Instr.box, newVar, newRow, newObj, aK hx, nW hl]
 rfl
def mY (P : AL) (t : AJ) : Option (List AH) :=
 match P.info? t with
 | some i => match i.zero with
  | some z => qT z
  | none => none
 | none => none
def xH {P : AL} {t : AJ} {l : AA} (h : mY P t = some l) (w : AI) : ∃ z, (zeroValue t).run P w = .ok z w ∧ z.cells = l.toArray := by
 unfold mY at h
 split at h
 ·rename_i i hi
  split at h
  ·rename_i z hz
   exact ⟨z, by simp [zeroValue, typeInfo, hi, hz], nW h⟩
  ·cases h
 ·cases h
def bY {t : AJ} {l : AA} (hl : mY Γ.P t = some l) :
  Op1 Γ ⟨d, .alloc t, ty, pos, af, g⟩ e H (fun u H' => ∃ b, u = .pointer (some ⟨b, 0, none⟩) ∧ H' = (b, blk l t) :: H) := by
 intro w hw
 obtain ⟨z, hz, hc⟩ := xH hl w
 refine cY (v := .pointer (some ⟨w.heap.size, 0, none⟩)) (w' := w.alloc (blk l t)) ?_ ⟨_, hw.alloc _, _, rfl, rfl⟩
 simp [execOp, Instr.alloc, ak, hz, newVar, newRow, newObj, hc]
 rfl
def aEw {P : AL} {t : AJ} {x : AK} {b off : Nat} {v : AH} (hx : vnf (ev e x) = some (.pointer (some ⟨b, off, none⟩))) (hs : lF P t = true) {w : AI}
  (hc : w.cell? ⟨b, off, none⟩ = some v) : (execOp (ev e) ⟨d, .load t x, ty, pos, af, g⟩).run P w = .ok (.value v) w := by
 have hx := aK hx
 simp [execOp, Instr.loadAt, Instr.sureAddr, hx, loadVar, ak, aFZ hs, load, Sem.run, hc]
def aH {t : AJ} {x : AK} {b off : Nat} {v : AH} (hx : vnf (ev e x) = some (.pointer (some ⟨b, off, none⟩))) (hs : lF Γ.P t = true)
  (hc : ∀ w, St Γ.w0 Γ.ms H w → w.cell? ⟨b, off, none⟩ = some v) : Op1 Γ ⟨d, .load t x, ty, pos, af, g⟩ e H (fun u H' => u = v ∧ H' = H) :=
 fun w hw => cY (aEw hx hs (hc w hw)) ⟨H, hw, rfl, rfl⟩
def aDp {P : AL} {t : AJ} {x : AK} {b off : Nat} {l : AA} (hx : vnf (ev e x) = some (.pointer (some ⟨b, off, none⟩))) (hs : oC P t = true) (hn : fH P t = some l.length) {w : AI}
  (hc : Row w b off l) : (execOp (ev e) ⟨d, .load t x, ty, pos, af, g⟩).run P w = .ok (.value (.agg l.toArray)) w := by
 have hx := aK hx
 have hl := run_loadCells_list (P := P) w ⟨b, off, none⟩ l hc.add
 simp [execOp, Instr.loadAt, Instr.sureAddr, hx, loadVar, ak, lE hs, fM hn, hl]
def aL {t : AJ} {x : AK} {b off : Nat} {l : AA} (hx : vnf (ev e x) = some (.pointer (some ⟨b, off, none⟩))) (hs : oC Γ.P t = true) (hn : fH Γ.P t = some l.length)
  (hc : ∀ w, St Γ.w0 Γ.ms H w → Row w b off l) : Op1 Γ ⟨d, .load t x, ty, pos, af, g⟩ e H (fun u H' => u = .agg l.toArray ∧ H' = H) :=
 fun w hw => cY (aDp hx hs hn (hc w hw)) ⟨H, hw, rfl, rfl⟩
def aT {w0 : AI} {ms : AE} {b : Nat} {l : AA} {t : AJ} {fr : Nat × Nat} {off : Nat} {v : AH} (hm : (b, Obj.cells l.toArray t fr) ∈ H) (hv : l[off]? = some v) :
  ∀ w, St w0 ms H w → w.cell? ⟨b, off, none⟩ = some v := fun w hw => by rw [iH (hw.own_blk hm)]; simpa using hv
def bF {w0 : AI} {ms : AE} {b off : Nat} {v : AH} (hc : w0.cell? ⟨b, off, none⟩ = some v) (hb : b ∉ ms) : ∀ w, St w0 ms H w → w.cell? ⟨b, off, none⟩ = some v := fun w hw => by
 unfold World.cell? at hc ⊢
 simp only at hc ⊢
 cases hq : w0.heap[b]? with
 | none => simp [hq] at hc
 | some o => rw [hw.old hq hb]; rw [hq] at hc; exact hc
def aA {w0 : AI} {ms : AE} {b : Nat} {l : AA} {t : AJ} {fr : Nat × Nat} (hm : (b, Obj.cells l.toArray t fr) ∈ H) : ∀ w, St w0 ms H w → Row w b 0 l := fun _ hw => Row.all (hw.own_blk hm)
def aR {w0 : AI} {ms : AE} {b off : Nat} {l : AA} (hr : Row w0 b off l) (hb : b ∉ ms) : ∀ w, St w0 ms H w → Row w b off l := fun _ hw j v hv => bF (hr j v hv) hb _ hw
def aP (l : AA) (off : Nat) (vs : AA) : AA := l.take off ++ vs ++ l.drop (off + vs.length)
def St.setAt {w0 w w' : AI} {ms : AE} {H : aB} {i b : Nat} {o o' : Obj} (h : St w0 ms H w) (hi : H[i]? = some (b, o))
  (h1 : w'.os = w.os) (h2 : w'.tape = w.tape) (h3 : w'.output = w.output) (h4 : w'.heap.size = w.heap.size)
  (h5 : ∀ k, k ≠ b → w'.heap[k]? = w.heap[k]?) (h6 : w'.heap[b]? = some o') : St w0 ms (H.set i (b, o')) w' := by
 have hlt : i < H.length := (List.getElem?_eq_some_iff.1 hi).1
 have hget : H[i] = (b, o) := (List.getElem?_eq_some_iff.1 hi).2
 have hsplit : H = H.take i ++ (b, o) :: H.drop (i + 1) := by
  rw [← hget, List.getElem_cons_drop, dj]
 have hset : H.set i (b, o') = H.take i ++ (b, o') :: H.drop (i + 1) := by
  rw [cz, if_pos hlt]
 rw [hset]
 have h' : St w0 ms ((b, o) :: (H.take i ++ H.drop (i + 1))) w := h.perm (by
  conv => lhs; rw [hsplit]
  exact List.perm_middle)
 exact (h'.turn h1 h2 h3 h4 h5 h6).perm List.perm_middle.symm
def cQ {t : AJ} {x y : AK} {b off : Nat} {v : AH} {vs l : AA} {T : AJ} (i : Nat)
  (hx : vnf (ev e x) = some (.pointer (some ⟨b, off, none⟩))) (hy : vnf (ev e y) = some v) (hv : qT v = some vs) (hn : fH Γ.P t = some vs.length) (h1 : fE vs = true)
  (hi : H[i]? = some (b, blk l T)) (hl : off + vs.length ≤ l.length) :
  Op1 Γ ⟨d, .store t x y, ty, pos, af, g⟩ e H (fun u H' => u = undef ∧ H' = H.set i (b, blk (aP l off vs) T)) := by
 intro w hw
 have hx := aK hx
 have hy := aK hy
 have hg : w.heap[b]? = some (blk l T) := hw.own_blk (ay hi)
 have hst := run_storeCells_at Γ.P b off T vs 0 l.toArray w hg (by simpa using hl) (by simpa [fE] using h1)
 simp only [gn] at hst
 have hc := nW hv
 refine aA6 (w' := w.setRow b (aP l off vs).toArray) ?_ ⟨_, ?_, rfl, rfl⟩
 ·simp [execOp, Instr.storeAt, Instr.sureAddr, hx, hy, storeVar, ak, fM hn, hc, hst, aP]
 ·exact hw.setAt hi rfl rfl rfl (by simp [World.setRow]) (fun k hk => setRow_other w b k _ hk) (setRow_heap w b _ _ T _ hg)
def aEN {t el : AJ} {len n : Nat} {parts : Array (Nat × AK)} {ps : List (Nat × AH)} {l : AA} {z : AA}
  (hu : Γ.P.underlying t = some (.slice el)) (hp : (parts.map fun (i, x) => (i, ev e x)).toList = ps) (hn : fH Γ.P el = some n) (hsm : Nat.ble (len * n) 16777216 = true) (hpos : Nat.ble 1 (len * n) = true)
  (hz : mY Γ.P el = some z)
  (hf : Instr.fill (fun i => some (i * n, n)) ((Array.range (len * n)).map (z.toArray[· % z.toArray.size]!)) ps = some l.toArray) :
  Op1 Γ ⟨d, .buildSlice t len parts, ty, pos, af, g⟩ e H (fun u H' => ∃ b, u = .slice (some ⟨b, 0, none⟩) len len ∧ H' = (b, blk l el) :: H) := by
 intro w hw
 have h2 : ¬ len * n = 0 := by have := ag hpos; omega
 have h3 : ¬ len * n > 2 ^ 24 := by have := ag hsm; omega
 obtain ⟨zv, hzv, hzc⟩ := xH hz w
 refine cY (v := .slice (some ⟨w.heap.size, 0, none⟩) len len) (w' := w.alloc (blk l el)) ?_ ⟨_, hw.alloc _, _, rfl, rfl⟩
 subst hp
 have key : (Instr.buildSlice t len (parts.map fun (i, x) => (i, ev e x))).run Γ.P w = .ok (.slice (some ⟨w.heap.size, 0, none⟩) len len) (w.alloc (blk l el)) := by
  unfold Instr.buildSlice
  simp only [ak, run_underlying hu, fM hn, ai, h2, h3, if_false, hzv, hzc, hf, av]
  rfl
 simp only [execOp, ak, key, ai, av]
end
section
variable {P : AL} {Γ : Ctx} {e : Env} {H : aB} {d : AD} {ty : AJ} {pos : String} {af : AG} {g : Option (Nat × Bool)}
def nL (P : AL) (t : AJ) : Option (Nat × Nat) :=
 match P.underlying t with
 | some (.slice el) => match fH P el with
  | some s => some (el, s)
  | none => none
 | _ => none
def uM (P : AL) (t : AJ) : Option (Nat × Nat × Nat) :=
 match P.underlying t with
 | some (.array n el) => match fH P el with
  | some s => some (n, el, s)
  | none => none
 | _ => none
def iR {t el s : Nat} (h : nL P t = some (el, s)) : P.underlying t = some (.slice el) ∧ fH P el = some s := by
 unfold nL at h
 split at h
 ·rename_i el' hu
  split at h
  ·rename_i s' hs; cases h; exact ⟨hu, hs⟩
  ·cases h
 ·cases h
def rH {t n el s : Nat} (h : uM P t = some (n, el, s)) : P.underlying t = some (.array n el) ∧ fH P el = some s := by
 unfold uM at h
 split at h
 ·rename_i n' el' hu
  split at h
  ·rename_i s' hs; cases h; exact ⟨hu, hs⟩
  ·cases h
 ·cases h
def sE (b off k : Nat) : (⟨b, off, none⟩ : Addr).add k = ⟨b, off + k, none⟩ := by unfold Addr.add; split <;> simp_all
def bI {α : Type} {t : AJ} {D : TypeDesc} (h : P.underlying t = some D) (f : TypeDesc → Sem α) : bM P (underlying t >>= f) = bM P (f D) := by
 simp [underlying, program, bind, Sem.bind, bM, h, pure]
def hY {α : Type} {t n : Nat} (h : fH P t = some n) (f : Nat → Sem α) : bM P (sizeOf t >>= f) = bM P (f n) := by
 unfold fH at h
 cases hq : P.info? t with
 | none => simp [hq] at h
 | some i =>
  have : i.size = n := by simpa [hq] using h
  simp [sizeOf, typeInfo, program, bind, Sem.bind, bM, hq, pure, this]
def eK {α β : Type} (a : α) (f : α → Sem β) : bM P ((pure a : Sem α) >>= f) = bM P (f a) := rfl
def aX {o : Oper} {v : AH} (h : bM P (execOp (ev e) o) = some (.value v)) (hv : vnf v = some v) : bH P e o = some v := by
 simp [bH, h, hv]
def bE {t : AJ} {x i : AK} {b off n c el s : Nat} {k : AM} {j : Int} (m : Nat) (hx : vnf (ev e x) = some (.slice (some ⟨b, off, none⟩) n c)) (hi : vnf (ev e i) = some (.int k j))
  (hu : nL P t = some (el, s)) (hj : j = (m : Int)) (hm : m < n) :
  bH P e ⟨d, .indexAddr t x i, ty, pos, af, g⟩ = some (.pointer (some ⟨b, off + m * s, none⟩)) := by
 obtain ⟨h1, h2⟩ := iR hu
 have hx := aK hx
 have hi := aK hi
 subst hj
 refine aX ?_ rfl
 have h3 : (0 : Int) ≤ (m : Int) ∧ (m : Int) < (n : Int) := ⟨by omega, by omega⟩
 simp only [execOp, hx, hi, Instr.indexAt, asIntOf, eK, bind_assoc, bI h1, h3, and_self, if_true, hY h2, bj, sE]
 rfl
def bT {t : AJ} {x i : AK} {b off n el s : Nat} {k : AM} {j : Int} (m : Nat) (hx : vnf (ev e x) = some (.pointer (some ⟨b, off, none⟩))) (hi : vnf (ev e i) = some (.int k j))
  (hu : uM P t = some (n, el, s)) (hj : j = (m : Int)) (hm : m < n) :
  bH P e ⟨d, .indexAddr t x i, ty, pos, af, g⟩ = some (.pointer (some ⟨b, off + m * s, none⟩)) := by
 obtain ⟨h1, h2⟩ := rH hu
 have hx := aK hx
 have hi := aK hi
 subst hj
 refine aX ?_ rfl
 have h3 : (0 : Int) ≤ (m : Int) ∧ (m : Int) < (n : Int) := ⟨by omega, by omega⟩
 simp only [execOp, hx, hi, Instr.indexAt, asIntOf, Instr.sureAddr, eK, bind_assoc, bI h1, h3, and_self, if_true, hY h2, bj, sE]
 rfl
def aV {t : AJ} {x i : AK} {b off n c el : Nat} {k : AM} {j : Int} (m : Nat) (hx : vnf (ev e x) = some (.slice (some ⟨b, off, none⟩) n c)) (hi : vnf (ev e i) = some (.int k j))
  (hu : nL P t = some (el, 1)) (hj : j = (m : Int)) (hm : m < n) :
  bH P e ⟨d, .indexAddr t x i, ty, pos, af, g⟩ = some (.pointer (some ⟨b, off + m, none⟩)) := by
 have := bE (d := d) (ty := ty) (pos := pos) (af := af) (g := g) m hx hi hu hj hm
 rwa [eo] at this
def aM {t : AJ} {x i : AK} {b off n el : Nat} {k : AM} {j : Int} (m : Nat) (hx : vnf (ev e x) = some (.pointer (some ⟨b, off, none⟩))) (hi : vnf (ev e i) = some (.int k j))
  (hu : uM P t = some (n, el, 1)) (hj : j = (m : Int)) (hm : m < n) :
  bH P e ⟨d, .indexAddr t x i, ty, pos, af, g⟩ = some (.pointer (some ⟨b, off + m, none⟩)) := by
 have := bT (d := d) (ty := ty) (pos := pos) (af := af) (g := g) m hx hi hu hj hm
 rwa [eo] at this
def oE {t : AJ} {x i : AK} {b n el : Nat} {k : AM} {j : Int} (m : Nat) (hx : vnf (ev e x) = some (.pointer (some ⟨b, 0, none⟩))) (hi : vnf (ev e i) = some (.int k j))
  (hu : uM P t = some (n, el, 1)) (hj : j = (m : Int)) (hm : m < n) :
  bH P e ⟨d, .indexAddr t x i, ty, pos, af, g⟩ = some (.pointer (some ⟨b, m, none⟩)) := by
 have := aM (d := d) (ty := ty) (pos := pos) (af := af) (g := g) m hx hi hu hj hm
 rwa [az] at this
def iF (off l s c : Nat) : Nat := if c = l then off else off + l * s
def Row.cut {w : AI} {b off : Nat} {L : AA} (h : Row w b off L) {l k s c : Nat} (hc : l + k ≤ c) : Row w b (iF off l s c) ((L.drop (l * s)).take (k * s)) := by
 unfold iF
 by_cases hcl : c = l
 ·rw [if_pos hcl]
  have : k = 0 := by omega
  subst this
  simp only [f8, gb]
  exact Row.nil w b off
 ·rw [if_neg hcl]
  intro j v hv
  rw [dz] at hv
  split at hv
  ·rw [db] at hv
   rw [dg]; exact h _ _ hv
  ·cases hv
def cut1 (off l c : Nat) : Nat := if c = l then off else off + l
def aCD (off l c : Nat) : iF off l 1 c = cut1 off l c := by simp [iF, cut1]
def Row.cut1 {w : AI} {b off : Nat} {L : AA} (h : Row w b off L) {l k c : Nat} (hc : l + k ≤ c) : Row w b (VV.cut1 off l c) ((L.drop l).take k) := by
 have := h.cut (l := l) (k := k) (s := 1) hc
 rwa [aCD, eo, eo] at this
def aRs (e : Env) (x : AK) : Option Int :=
 match vnf (ev e x) with
 | some (.int _ j) => some j
 | _ => none
def lH (e : Env) : Option AK → Option (Option Int)
 | none => some none
 | some x => (aRs e x).map some
def qW {x : AK} {j : Int} {m y : Nat} {code : BoundsCode} (hx : lH e (some x) = some (some j)) (hj : j = (m : Int)) (hm : m ≤ y) :
  Instr.sliceBound (ev e x) y code = pure m := by
 simp only [lH, Option.map_eq_some_iff, Option.some.injEq, exists_eq_right] at hx
 unfold aRs at hx
 split at hx
 ·rename_i h
  simp only [Option.some.injEq] at hx
  subst hx
  have := aK h
  subst hj
  have h3 : (0 : Int) ≤ (m : Int) ∧ (m : Int) ≤ (y : Int) := ⟨by omega, by omega⟩
  simp [Instr.sliceBound, this, asIntOf, h3]
 ·cases hx
def wJ {isS : Bool} {lo hi : Option AK} {n c : Nat} {jl jh : Option Int} (l h : Nat)
  (hlo : lH e lo = some jl) (hhi : lH e hi = some jh) (hl : jl.getD 0 = (l : Int)) (hh : jh.getD n = (h : Int)) (h1 : l ≤ h) (h2 : h ≤ c) :
  Instr.sliceBounds isS n c (lo.map (ev e)) (hi.map (ev e)) none = pure (l, h, c) := by
 have bn : ∀ (x : AK), lH e (some x) ≠ some none := fun x hx => by
  simp [lH] at hx
 have fin : ∀ (f : BoundsCode → Sem Nat), (∀ code, f code = (pure h : Sem Nat)) → ∀ cd, ((f cd >>= fun h' => (match lo.map (ev e) with
   | some v => Instr.sliceBound v h' .sliceB
   | none => (pure 0 : Sem Nat)) >>= fun l => pure (l, h', c)) : Sem (Nat × Nat × Nat)) = pure (l, h, c) := by
  intro f hf cd
  rw [hf]
  simp only [pure_bind]
  cases lo with
  | none =>
   cases hlo
   simp only [Option.getD_none] at hl
   have : l = 0 := by omega
   subst this
   rfl
  | some y =>
   cases jl with
   | none => exact absurd hlo (bn y)
   | some j =>
    simp only [go]
    rw [qW hlo (by simpa using hl) h1]
    rfl
 cases hi with
 | none =>
  cases hhi
  simp only [Option.getD_none] at hh
  have hnh : n = h := by omega
  subst hnh
  have := fin (fun _ => pure n) (fun _ => rfl) .index
  cases lo <;> (simp only [Instr.sliceBounds] ; exact this)
 | some y =>
  cases jh with
  | none => exact absurd hhi (bn y)
  | some j =>
   have := fin (fun cd => Instr.sliceBound (ev e y) c cd) (fun cd => qW hhi (by simpa using hh) h2) (if isS then .sliceAcap else .sliceAlen)
   cases lo <;> (simp only [Instr.sliceBounds] ; exact this)
def iV {t : AJ} {x : AK} {lo hi : Option AK} {b off n c el s : Nat} {jl jh : Option Int} (l h : Nat) (hx : vnf (ev e x) = some (.slice (some ⟨b, off, none⟩) n c))
  (hu : nL P t = some (el, s)) (hlo : lH e lo = some jl) (hhi : lH e hi = some jh) (hl : jl.getD 0 = (l : Int)) (hh : jh.getD n = (h : Int)) (h1 : l ≤ h) (h2 : h ≤ c) :
  bH P e ⟨d, .slice t x lo hi none, ty, pos, af, g⟩ = some (.slice (some ⟨b, iF off l s c, none⟩) (h - l) (c - l)) := by
 obtain ⟨g1, g2⟩ := iR hu
 have hx := aK hx
 refine aX ?_ rfl
 have hb := wJ (isS := true) l h hlo hhi hl hh h1 h2
 simp only [execOp, hx, Instr.sliceAt, Instr.slice, bind_assoc, bI g1, gp, hb, eK, hY g2]
 unfold iF
 by_cases hcl : c = l
 ·simp only [hcl, if_true]; rfl
 ·simp only [hcl, if_false, go, sE]; rfl
def aJd {t : AJ} {x : AK} {lo hi : Option AK} {b off n el s : Nat} {jl jh : Option Int} (l h : Nat) (hx : vnf (ev e x) = some (.pointer (some ⟨b, off, none⟩)))
  (hu : uM P t = some (n, el, s)) (hlo : lH e lo = some jl) (hhi : lH e hi = some jh) (hl : jl.getD 0 = (l : Int)) (hh : jh.getD n = (h : Int)) (h1 : l ≤ h) (h2 : h ≤ n) :
  bH P e ⟨d, .slice t x lo hi none, ty, pos, af, g⟩ = some (.slice (some ⟨b, iF off l s n, none⟩) (h - l) (n - l)) := by
 obtain ⟨g1, g2⟩ := rH hu
 have hx := aK hx
 refine aX ?_ rfl
 have hb := wJ (isS := false) l h hlo hhi hl hh h1 h2
 simp only [execOp, hx, Instr.sliceAt, Instr.sureAddr, bind_assoc, eK, bI g1, gp, hb, hY g2]
 unfold iF
 by_cases hcl : n = l
 ·simp only [hcl, if_true]; rfl
 ·simp only [hcl, if_false, sE]; rfl
def gE {t : AJ} {x : AK} {lo hi : Option AK} {b off n c el : Nat} {jl jh : Option Int} (l h : Nat) (hx : vnf (ev e x) = some (.slice (some ⟨b, off, none⟩) n c))
  (hu : nL P t = some (el, 1)) (hlo : lH e lo = some jl) (hhi : lH e hi = some jh) (hl : jl.getD 0 = (l : Int)) (hh : jh.getD n = (h : Int)) (h1 : l ≤ h) (h2 : h ≤ c) :
  bH P e ⟨d, .slice t x lo hi none, ty, pos, af, g⟩ = some (.slice (some ⟨b, cut1 off l c, none⟩) (h - l) (c - l)) := by
 have := iV (d := d) (ty := ty) (pos := pos) (af := af) (g := g) l h hx hu hlo hhi hl hh h1 h2
 rwa [aCD] at this
def fO {t : AJ} {x : AK} {lo hi : Option AK} {b off n el : Nat} {jl jh : Option Int} (l h : Nat) (hx : vnf (ev e x) = some (.pointer (some ⟨b, off, none⟩)))
  (hu : uM P t = some (n, el, 1)) (hlo : lH e lo = some jl) (hhi : lH e hi = some jh) (hl : jl.getD 0 = (l : Int)) (hh : jh.getD n = (h : Int)) (h1 : l ≤ h) (h2 : h ≤ n) :
  bH P e ⟨d, .slice t x lo hi none, ty, pos, af, g⟩ = some (.slice (some ⟨b, cut1 off l n, none⟩) (h - l) (n - l)) := by
 have := aJd (d := d) (ty := ty) (pos := pos) (af := af) (g := g) l h hx hu hlo hhi hl hh h1 h2
 rwa [aCD] at this
inductive Vec (T s : Nat) : AH → Nat → AA → aB → Prop
 | nil : Vec T s (.slice none 0 0) 0 [] []
 | row (b n cap : Nat) (xs sp : AA) (hn : xs.length = n * s) (hc : (xs ++ sp).length = cap * s) (hm : cap ≤ maxLen) (hle : n ≤ cap) : Vec T s (.slice (some ⟨b, 0, none⟩) n cap) n xs [(b, blk (xs ++ sp) T)]
def Vec.len {T s : Nat} {v : AH} {n : Nat} {xs : AA} {G : aB} (h : Vec T s v n xs G) : xs.length = n * s := by
 cases h with
 | nil => simp
 | row _ _ _ _ _ hn => exact hn
def Vec.slice {T s : Nat} {v : AH} {n : Nat} {xs : AA} {G : aB} (h : Vec T s v n xs G) : ∃ a c, v = .slice a n c := by
 cases h with
 | nil => exact ⟨_, _, rfl⟩
 | row _ _ _ _ _ _ _ _ _ => exact ⟨_, _, rfl⟩
inductive Src (w : AI) (s : Nat) : AH → Nat → AA → Prop
 | row (b off m c : Nat) (xs : AA) (hn : xs.length = m * s) (hr : Row w b off xs) : Src w s (.slice (some ⟨b, off, none⟩) m c) m xs
def Vec.owns {T s : Nat} {v : AH} {n : Nat} {xs : AA} {G : aB} (h : Vec T s v n xs G) {w0 w : AI} {ms : AE} {R : aB} (hw : St w0 ms (G ++ R) w) : w.ownsRow 0 T s v n xs := by
 cases h with
 | nil => exact ⟨by simp, .inl ⟨rfl, rfl⟩⟩
 | row b n cap xs sp hn hc hm hle =>
  refine ⟨hn, .inr ⟨b, cap, (xs ++ sp).toArray, rfl, aj _, hw.own_blk (by simp), hle, hm, by simpa using hc, ?_⟩⟩
  simp [← hn]
def Vec.of_owns {T s : Nat} {v : AH} {n : Nat} {xs : AA} {w : AI} (h : w.ownsRow 0 T s v n xs) :
  ∃ G, Vec T s v n xs G ∧ (∀ x ∈ G, w.heap[x.1]? = some x.2) ∧ (∀ x ∈ G, v.ownBlock = some x.1) ∧ (G.map (·.1)).Nodup := by
 obtain ⟨h1, h2⟩ := h
 rcases h2 with ⟨rfl, rfl⟩ | ⟨b, cap, cur, rfl, _, hb, hle, hm, hc, ht⟩
 ·have : xs = [] := ci (by simpa using h1)
  subst this
  exact ⟨[], .nil, by simp, by simp, by simp⟩
 ·refine ⟨_, .row b n cap xs (cur.toList.drop (n * s)) h1 ?_ hm hle, ?_, ?_, by simp⟩
  ·rw [← ht, dj]; simpa using hc
  ·intro x hx
   simp only [ga] at hx
   subst hx
   rw [hb]
   simp only [blk]
   congr 2
   rw [← ht, dj]
  ·intro x hx
   simp only [ga] at hx
   subst hx; rfl
def uL (P : AL) (t : AJ) : Option (Nat × Nat × Nat) :=
 match P.underlying t with
 | some (.slice el) => match P.info? el with
  | some i => match i.zero with
   | some z => if z.cells.size = i.size ∧ 0 < i.size then some (el, i.size, i.bytes) else none
   | none => none
  | none => none
 | _ => none
def aD1 (w : AI) (t ty el : AJ) (i : TypeInfo) (z : AH) (hu : P.underlying t = some (.slice el)) (hi : P.info? el = some i) (hz : i.zero = some z) (v : AH) (n : Nat) (xs : AA)
  (hown : w.ownsRow 0 el i.size v n xs) (b off m c : Nat) (ys : AA) (hn : ys.length = m * i.size) (hr : ∀ j u, ys[j]? = some u → w.cell? ((⟨b, off, none⟩ : Addr).add j) = some u) (h1 : ∀ u ∈ ys, u.oneCell' = true)
  (h63 : n + m ≤ maxLen) (hbytes : (n + m) * i.bytes ≤ 140737488355328) {v' : AH} {w' : AI}
  (hrun : (Builtin.append_ #[t, t] ty #[v, .slice (some ⟨b, off, none⟩) m c]).run P w = .ok v' w') :
  v'.ownBlock = v.ownBlock ∨ v'.ownBlock = some w.heap.size := by
 have hsm : n + m ≤ 9223372036854775807 := by unfold maxLen at h63; omega
 obtain ⟨hx, h2⟩ := hown
 rcases h2 with ⟨rfl, rfl⟩ | ⟨g, cap, cur, rfl, _, hg, hle, hm, hcs, htake⟩
 ·by_cases hm0 : m = 0
  ·subst hm0
   have hys : ys = [] := ci (by simpa using hn)
   subst hys
   have hr0 : (Builtin.append_ #[t, t] ty #[.slice none 0 0, .slice (some ⟨b, off, none⟩) 0 c]).run P w = .ok (.slice none 0 0) w := by
    simp [Builtin.append_, run_underlying hu, sizeOf, typeInfo, hi, Builtin.lenOf, Builtin.firstCells, loadCells, loadCellsFrom]
   rw [hr0] at hrun
   cases hrun
   exact .inl rfl
  ·have h3 := run_append_nil (P := P) w t ty el i z hu hi hz ⟨b, off, none⟩ m c ys hn hr (by omega) (by omega) (by simp only [az] at hbytes; omega)
   rw [h3] at hrun
   cases hrun
   exact .inr rfl
 ·by_cases hroom : n + m ≤ cap
  ·have hfit : n * i.size + ys.length ≤ cur.size := by rw [hn, hcs, ← i9]; exact ew _ hroom
   have h3 := run_append_room (P := P) w t ty el i hu hi g n cap cur hg ⟨b, off, none⟩ m c ys hn hr h1 hroom hfit
   rw [h3] at hrun
   cases hrun
   exact .inl rfl
  ·have holds : ∀ j u, xs[j]? = some u → w.cell? ((⟨g, 0, none⟩ : Addr).add j) = some u := World.ownsRow.cells ⟨hx, .inr ⟨g, cap, cur, rfl, aj _, hg, hle, hm, hcs, htake⟩⟩ rfl
   have h3 := run_append_grow (P := P) w t ty el i z hu hi hz ⟨g, 0, none⟩ n cap xs hx holds ⟨b, off, none⟩ m c ys hn hr (by omega) (by omega) (growslice_fits (by omega) hbytes)
   rw [h3] at hrun
   cases hrun
   exact .inr rfl
def gD {t : AJ} {x y : AK} {T s by_ : Nat} {v u : AH} {n m : Nat} {xs ys : AA} {G A R : aB} {ts : Array AJ}
  (hx : ev e x = v) (hy : ev e y = u) (hts : ts = #[t, t]) (hp : uL Γ.P t = some (T, s, by_)) (hv : Vec T s v n xs G)
  (hs : ∀ w, St Γ.w0 Γ.ms (A ++ (G ++ R)) w → Src w s u m ys) (h1 : fE ys = true) (hlen : n + m ≤ 140737488355328) (hb : (n + m) * by_ ≤ 140737488355328) :
  Op1 Γ ⟨d, .call ⟨.builtin .append, #[x, y], ts⟩, ty, pos, af, g⟩ e (A ++ (G ++ R)) (fun v' H' => ∃ G', Vec T s v' (n + m) (xs ++ ys) G' ∧ (v' = .slice none 0 0 → n = 0 ∧ m = 0) ∧ H' = G' ++ (A ++ R)) := by
 intro w hw
 subst hts hx hy
 unfold uL at hp
 split at hp <;> try cases hp
 rename_i el hu
 split at hp <;> try cases hp
 rename_i i hi
 split at hp <;> try cases hp
 rename_i z hz
 split at hp <;> try cases hp
 rename_i hzs
 obtain ⟨hz1, hz2⟩ := hzs
 have hw2 : St Γ.w0 Γ.ms (G ++ (A ++ R)) w := hw.perm (by
  rw [← bg, ← bg]
  exact c8 R au)
 have hs' := hs w hw
 generalize hue : ev e y = u at hs'
 generalize hve : ev e x = v at hv
 cases hs' with
 | row b off m c ys hn hr =>
  have hown := hv.owns hw2
  obtain ⟨v', w', hrun, hown', hgr, hnil⟩ := run_append_own (P := Γ.P) w 0 t ty T i z i.size i.bytes hu hi hz rfl rfl hz1 hz2 v n xs hown ⟨b, off, none⟩ m c ys hn hr.add (by simpa [fE] using h1) (by unfold maxLen; omega) (by omega) (aj _)
  obtain ⟨G', hV', hG', hGo, hGn⟩ := Vec.of_owns hown'
  have hnd := hw2.nodup
  rw [aw, cx] at hnd
  obtain ⟨hnG, hnR, hGR⟩ := hnd
  have hvb : ∀ k, v.ownBlock = some k → ∃ o, (k, o) ∈ G := by
   intro k hk
   cases hv with
   | nil => cases hk
   | row b2 _ cap2 _ sp2 _ _ _ _ =>
    simp only [Value.ownBlock, Option.some.injEq] at hk
    subst hk
    exact ⟨blk (xs ++ sp2) T, by simp⟩
  have hkeep : ∀ k, k < w.heap.size → (∀ o, (k, o) ∉ G) → w'.heap[k]? = w.heap[k]? := fun k hk hno => hgr.block k hk (fun he => by
   obtain ⟨o, ho⟩ := hvb k he.symm
   exact hno o ho)
  have hnew : ∀ x ∈ G', (∃ o, (x.1, o) ∈ G) ∨ w.heap.size ≤ x.1 := by
   intro x hx
   have h3 := hGo x hx
   have h4 := hG' x hx
   by_cases hlt : x.1 < w.heap.size
   ·by_cases hno : ∃ o, (x.1, o) ∈ G
    ·exact .inl hno
    ·exfalso
     rcases aD1 (P := Γ.P) w t ty T i z hu hi hz v n xs hown b off m c ys hn hr.add (by simpa [fE] using h1) (by unfold maxLen; omega) (by omega) hrun with hc | hc
     ·rw [hc] at h3
      exact hno (hvb _ h3)
     ·rw [hc] at h3; simp only [Option.some.injEq] at h3; omega
   ·exact .inr (by omega)
  have hA : St Γ.w0 Γ.ms (G' ++ (A ++ R)) w' := by
   refine ⟨hgr.os.trans hw2.os, hgr.tape.trans hw2.tape, hgr.output.trans hw2.output, f7 hw2.size hgr.size, ?_, ?_, ?_, ?_⟩
   ·intro k hk hm2
    have hsz := hw2.size
    rw [hkeep k (by omega) ?_]
    ·exact hw2.block k hk hm2
    ·intro o ho
     rcases hw2.own (k, o) (by simp [ho]) with h7 | h7
     ·exact hm2 h7
     ·simp at h7; omega
   ·rw [aw, cx]
    refine ⟨hGn, hnR, ?_⟩
    intro a ha b2 hb2 hab
    obtain ⟨x, hx, rfl⟩ := List.mem_map.1 ha
    obtain ⟨y2, hy2, rfl⟩ := List.mem_map.1 hb2
    rcases hnew x hx with ⟨o, ho⟩ | h8
    ·exact hGR _ (List.mem_map.2 ⟨_, ho, rfl⟩) _ (List.mem_map.2 ⟨y2, hy2, rfl⟩) hab
    ·have := hw2.lt (x := y2) (by simp only [gq] at hy2 ⊢; exact .inr hy2)
     omega
   ·intro x hx
    rcases List.mem_append.1 hx with hx | hx
    ·rcases hnew x hx with ⟨o, ho⟩ | h8
     ·exact hw2.own (x.1, o) (by simp [ho])
     ·have := hw2.size; exact .inr (by omega)
    ·exact hw2.own x (List.mem_append.2 (.inr hx))
   ·intro x hx
    rcases List.mem_append.1 hx with hx | hx
    ·exact hG' x hx
    ·rw [hkeep x.1 (hw2.lt (List.mem_append.2 (.inr hx))) ?_]
     ·exact hw2.holds x (List.mem_append.2 (.inr hx))
     ·intro o ho
      exact hGR _ (List.mem_map.2 ⟨_, ho, rfl⟩) _ (List.mem_map.2 ⟨x, hx, rfl⟩) rfl
  refine cY (v := v') (w' := w') ?_ ⟨_, hA, G', hV', fun h9 => ?_, rfl⟩
  ·simp only [execOp, resolve, ak, av, ai, invoke, builtin, cj, be, ct, hue, hve, hrun]
  ·obtain ⟨h10, h11⟩ := hnil.1 h9
   subst h10
   cases hv
   exact ⟨rfl, h11⟩
end
section
variable {P : AL} {Γ : Ctx} {k : dS} {e : Env} {H F : aB} {ops rest : List Oper} {d : AD} {op : Op} {t : AJ} {pos : String} {af : AG} {g : Option (Nat × Bool)}
 {need : AE} {pl : hQ} {i : Nat}
def l_x {K : AH → aB → Prop} (hop : Op1 Γ ⟨d, op, t, pos, af, g⟩ e H K) (hg : gdB ops e ⟨d, op, t, pos, af, g⟩ = true) (hd : cJ Γ.n d = true)
  (hk : ∀ v H', K v H' → L1 Γ ops rest k (e.put d v) H') : L1 Γ ops (⟨d, op, t, pos, af, g⟩ :: rest) k e H := aHg hg hd hop hk
def l_l {v : AH} (hl : bH Γ.P e ⟨d, op, t, pos, af, g⟩ = some v) (hg : gdB ops e ⟨d, op, t, pos, af, g⟩ = true) (hd : cJ Γ.n d = true)
  (h : L1 Γ ops rest k (e.put d v) H) : L1 Γ ops (⟨d, op, t, pos, af, g⟩ :: rest) k e H := aCq hl hg hd h
def l_b {b : Bool} (hl : bH Γ.P e ⟨d, op, t, pos, af, g⟩ = some (.bool b)) (hg : gdB ops e ⟨d, op, t, pos, af, g⟩ = true) (hd : cJ Γ.n d = true)
  (ht : b = true → L1 Γ ops rest k (e.put d (.bool true)) H) (hf : b = false → L1 Γ ops rest k (e.put d (.bool false)) H) : L1 Γ ops (⟨d, op, t, pos, af, g⟩ :: rest) k e H := aRd hl hg hd ht hf
def l_p (hg : gdB ops e ⟨d, op, t, pos, af, g⟩ = false) (hd : cJ Γ.n d = true)
  (h : L1 Γ ops rest k (e.put d undef) H) : L1 Γ ops (⟨d, op, t, pos, af, g⟩ :: rest) k e H := aQp hg hd h
def d_x {K : AH → aB → Prop} (ho : ops[i]? = some ⟨d, op, t, pos, af, g⟩) (hop : Op1 Γ ⟨d, op, t, pos, af, g⟩ e H K) (hg : gdB ops e ⟨d, op, t, pos, af, g⟩ = true) (hd : cJ Γ.n d = true)
  (hn : need.any (Nat.beq i) = true → ∀ v H', K v H' → ∀ x ∈ F, x ∈ H')
  (hk : ∀ v H', K v H' → L2 Γ ops (fN Γ F) need pl k (e.put d v) H') : L2 Γ ops (fN Γ F) need (.step false i pl) k e H :=
 aST ho hg hd hop (fun hx v H' _ hK hw => ⟨H', hw, hn hx v H' hK⟩) hk
def cZ {b : Nat} {l : AA} {T : AJ} {fr : Nat × Nat} {off : Nat} {v : AH} (hm : (b, Obj.cells l.toArray T fr) ∈ F) (hv : l[off]? = some v) :
  ∀ w, fN Γ F w → w.cell? ⟨b, off, none⟩ = some v := fun w ⟨_, hw, hF⟩ => aT (hF _ hm) hv w hw
def fG {b off : Nat} {v : AH} (hc : Γ.w0.cell? ⟨b, off, none⟩ = some v) (hb : b ∉ Γ.ms) : ∀ w, fN Γ F w → w.cell? ⟨b, off, none⟩ = some v :=
 fun w ⟨_, hw, _⟩ => bF hc hb w hw
def dO {b : Nat} {l : AA} {T : AJ} {fr : Nat × Nat} (hm : (b, Obj.cells l.toArray T fr) ∈ F) : ∀ w, fN Γ F w → Row w b 0 l := fun w ⟨_, hw, hF⟩ => aA (hF _ hm) w hw
def aA2 {b off : Nat} {l : AA} (hr : Row Γ.w0 b off l) (hb : b ∉ Γ.ms) : ∀ w, fN Γ F w → Row w b off l := fun w ⟨_, hw, _⟩ => aR hr hb w hw
def aKi {T : AJ} {x : AK} {b off : Nat} {v : AH} (ho : ops[i]? = some ⟨d, .load T x, t, pos, af, g⟩) (hx : vnf (ev e x) = some (.pointer (some ⟨b, off, none⟩))) (hs : lF Γ.P T = true)
  (hc : ∀ w, fN Γ F w → w.cell? ⟨b, off, none⟩ = some v)
  (hg : gdB ops e ⟨d, .load T x, t, pos, af, g⟩ = true) (hd : cJ Γ.n d = true)
  (h : L2 Γ ops (fN Γ F) need pl k (e.put d v) H) : L2 Γ ops (fN Γ F) need (.step true i pl) k e H :=
 rX ho hg hd (fun w hS => aEw hx hs (hc w (hS rfl))) h
def bU {T : AJ} {x : AK} {b off : Nat} {l : AA} (ho : ops[i]? = some ⟨d, .load T x, t, pos, af, g⟩) (hx : vnf (ev e x) = some (.pointer (some ⟨b, off, none⟩))) (hs : oC Γ.P T = true) (hn : fH Γ.P T = some l.length)
  (hc : ∀ w, fN Γ F w → Row w b off l)
  (hg : gdB ops e ⟨d, .load T x, t, pos, af, g⟩ = true) (hd : cJ Γ.n d = true)
  (h : L2 Γ ops (fN Γ F) need pl k (e.put d (.agg l.toArray)) H) : L2 Γ ops (fN Γ F) need (.step true i pl) k e H :=
 rX ho hg hd (fun w hS => aDp hx hs hn (hc w (hS rfl))) h
def dE {f : Nat} {l : AF} {ts : Array AJ} {vs : AA} (hc : cL Γ.P f = true) (hv : evs e l = some vs) {R : AH → aB → Prop}
  (hf : ∀ w, St Γ.w0 Γ.ms H w → aC Γ.P f vs w [] R) :
  Op1 Γ ⟨d, .call ⟨.value (.func f), l.toArray, ts⟩, t, pos, af, g⟩ e H (fun v H2 => ∃ H', R v H' ∧ H2 = H' ++ H) :=
 fun w hw => aFj (F := []) (G := H) [] hc hv hw (by simp) (hf w hw) fun _ _ _ h1 _ h2 => ⟨_, h2, _, h1, rfl⟩
def dY {A G : aB} {f : Nat} {l : AF} {ts : Array AJ} {vs : AA} (ms2 : AE) (hc : cL Γ.P f = true) (hv : evs e l = some vs) {R : AH → aB → Prop}
  (hms : ∀ b ∈ ms2, ∃ o, (b, o) ∈ A) (hf : ∀ w, St Γ.w0 Γ.ms (A ++ G) w → aC Γ.P f vs w ms2 R) :
  Op1 Γ ⟨d, .call ⟨.value (.func f), l.toArray, ts⟩, t, pos, af, g⟩ e (A ++ G) (fun v H2 => ∃ H', R v H' ∧ H2 = H' ++ G) :=
 fun w hw => aFj (F := A) (G := G) ms2 hc hv hw hms (hf w hw) fun _ _ _ h1 _ h2 => ⟨_, h2, _, h1, rfl⟩
def aJb {x y : AK} {ts : Array AJ} {tx ty el : AJ} {b off dl dc m : Nat} {u : AH} {l ys : AA} {T : AJ} (i : Nat)
  (hx : vnf (ev e x) = some (.slice (some ⟨b, off, none⟩) dl dc)) (hy : ev e y = u) (hts : ts = #[tx, ty]) (hu : nL Γ.P tx = some (el, 1))
  (hi : H[i]? = some (b, blk l T)) (hs : ∀ w, St Γ.w0 Γ.ms H w → Src w 1 u m ys) (h1 : fE ys = true) (hl : off + min m dl ≤ l.length) :
  Op1 Γ ⟨d, .call ⟨.builtin .copy, #[x, y], ts⟩, t, pos, af, g⟩ e H (fun v H' => v = .int .i64 (min m dl : Nat) ∧ H' = H.set i (b, blk (aP l off (ys.take (min m dl))) T)) := by
 intro w hw
 subst hts hy
 obtain ⟨g1, g2⟩ := iR hu
 have hx := aK hx
 have hg : w.heap[b]? = some (blk l T) := hw.own_blk (ay hi)
 have hs' := hs w hw
 generalize hue : ev e y = u at hs'
 cases hs' with
 | row b2 off2 m c ys hn hr =>
  have hlen : (ys.take (min m dl)).length = min m dl := by rw [ej]; omega
  have hrun := run_copy_row (P := Γ.P) w tx ty t el b off dl dc ⟨b2, off2, none⟩ m c l.toArray T (ys.take (min m dl)) g1 g2 hg (by rw [hlen])
   (fun j v hv => hr.add j v (by
    rw [dz] at hv
    split at hv
    ·exact hv
    ·cases hv)) (by rw [hlen]; simpa using hl) (fun v hv => by
    have := du hv
    exact List.all_eq_true.1 h1 v this)
  rw [hlen] at hrun
  refine cY (v := .int .i64 (min m dl : Nat)) (w' := w.setRow b (aP l off (ys.take (min m dl))).toArray) ?_ ⟨_, ?_, rfl, rfl⟩
  ·have e1 : aP l off (ys.take (min m dl)) = l.take off ++ ys.take (min m dl) ++ l.drop (off + min m dl) := by rw [aP, hlen]
   rw [e1]
   simp only [execOp, resolve, ak, av, ai, invoke, builtin, cj, be, ct, hx, hue, hrun]
   rfl
  ·exact hw.setAt hi rfl rfl rfl (by simp [World.setRow]) (fun k hk => setRow_other w b k _ hk) (setRow_heap w b _ _ T _ hg)
def sN {s : Nat} {w : AI} {v : AH} (h : vnf (e s) = some v) : jY P [.tmp s] e w v := xR (aK h)
def bZ {s u : Nat} {w : AI} {v1 v2 : AH} (h1 : vnf (e s) = some v1) (h2 : vnf (e u) = some v2) : jY P [.tmp s, .tmp u] e w (.tuple #[v1, v2]) := eD (aK h1) (aK h2)
def aU {a b : Nat} {T : AJ} {l : AA} {w : AI} (h : vnf (e a) = some (.pointer (some ⟨b, 0, none⟩))) (hs : oC P T = true) (hn : fH P T = some l.length) (hr : Row w b 0 l) :
  jY P [.cell a T] e w (.agg l.toArray) := by
 have h := aK h
 have hl := run_loadCells_list (P := P) w ⟨b, 0, none⟩ l hr.add
 simp [jY, qH, h, asAddr, loadVar, ak, lE hs, fM hn, hl]
def bC {a b s : Nat} {T : AJ} {l : AA} {v : AH} {w : AI} (h : vnf (e a) = some (.pointer (some ⟨b, 0, none⟩))) (hs : oC P T = true) (hn : fH P T = some l.length) (hr : Row w b 0 l) (h2 : vnf (e s) = some v) :
  jY P [.cell a T, .tmp s] e w (.tuple #[.agg l.toArray, v]) := by
 have h := aK h
 have hl := run_loadCells_list (P := P) w ⟨b, 0, none⟩ l hr.add
 have h2 := aK h2
 simp [jY, qH, h, h2, asAddr, loadVar, ak, lE hs, fM hn, hl]
def iN {Γ : Ctx} {rs : List ResultVar} {R : AH → aB → Prop} {H' : aB} {v : AH} (hr : ∀ w, St Γ.w0 Γ.ms H w → jY Γ.P rs e w v)
  (hh : H'.Sublist H) (h : R v H') : nE Γ rs R e H := eQ hr (fun _ hw => hw.sub hh) h
def aF {Γ : Ctx} {rs : List ResultVar} {R : AH → aB → Prop} {v : AH} (hr : ∀ w, St Γ.w0 Γ.ms H w → jY Γ.P rs e w v) (h : R v []) : nE Γ rs R e H := iN hr (List.nil_sublist _) h
end
section
variable {ops : Array Oper} {md : Region.Mode} {need : Nat → Bool}
def aDO (md : Region.Mode) (anc : AE) (l : List Edge) : Nat := l.foldr (fun e m => bif Region.binds md e then Nat.lor (Nat.lor m (1 <<< e.on)) (anc.getD e.on 0) else m) 0
def aDV (md : Region.Mode) (ops : Array Oper) (anc : AE) : Bool :=
 (List.range ops.size).all fun j => match ops[j]? with
  | some oj => Nat.beq (anc.getD j 0) (aDO md anc oj.after.toList) && oj.after.toList.all fun e => !Region.binds md e || Nat.blt e.on j
  | none => true
def aC1 {anc : AE} {i : Nat} : ∀ {l : List Edge}, (aDO md anc l).testBit i = true → ∃ e ∈ l, Region.binds md e = true ∧ (e.on = i ∨ (anc.getD e.on 0).testBit i = true)
 | [], h => by simp [aDO] at h
 | e :: l, h => by
  have ih := aC1 (anc := anc) (i := i) (l := l)
  simp only [aDO, List.foldr_cons] at h ih
  cases hb : Region.binds md e
  ·rw [hb, cond_false] at h
   obtain ⟨x, hx, h2⟩ := ih h
   exact ⟨x, .tail _ hx, h2⟩
  ·rw [hb, cond_true] at h
   have h3 : (List.foldr (fun e m => bif Region.binds md e then Nat.lor (Nat.lor m (1 <<< e.on)) (anc.getD e.on 0) else m) 0 l ||| (1 <<< e.on) ||| (anc.getD e.on 0)).testBit i = true := h
   rw [Nat.testBit_or, Nat.testBit_or, ee, ee] at h3
   rcases h3 with (h3 | h3) | h3
   ·obtain ⟨x, hx, h2⟩ := ih h3
    exact ⟨x, .tail _ hx, h2⟩
   ·refine ⟨e, .head _, hb, .inl ?_⟩
    rw [fp] at h3
    simp only [al, decide_eq_true_eq] at h3
    have h4 : i - e.on = 0 := by
     rcases dd (i - e.on) with h5 | h5
     ·exact h5
     ·have := h3.2
      rw [Nat.testBit_one_eq_true_iff_self_eq_zero] at this
      exact this
    omega
   ·exact ⟨e, .head _, hb, .inr h3⟩
def xG {i : Nat} : ∀ {f g j : Nat}, f ≤ g → kQ md ops i f j = true → kQ md ops i g j = true
 | 0, _, _, _, h => by simp [kQ] at h
 | f + 1, 0, _, hle, _ => by omega
 | f + 1, g + 1, j, hle, h => by
  simp only [kQ] at h ⊢
  split at h
  ·rename_i oj hoj
   obtain ⟨e, he, hb⟩ := Array.any_eq_true'.1 h
   refine Array.any_eq_true'.2 ⟨e, he, ?_⟩
   simp only [al, ee] at hb ⊢
   exact ⟨hb.1, hb.2.imp id fun h2 => xG (by omega) h2⟩
  ·cases h
def aDn {anc : AE} (hA : aDV md ops anc = true) {i : Nat} : ∀ (n j : Nat), j < n → j < ops.size → (anc.getD j 0).testBit i = true → kQ md ops i (j + 1) j = true
 | 0, _, h, _, _ => by omega
 | n + 1, j, hj, hs, hb => by
  have h1 := List.all_eq_true.1 hA j (List.mem_range.2 hs)
  have hoj : ops[j]? = some ops[j] := by simp [hs]
  rw [hoj] at h1
  simp only [al] at h1
  obtain ⟨h2, h3⟩ := h1
  rw [bi h2] at hb
  obtain ⟨e, he, hbe, hor⟩ := aC1 hb
  have h4 := List.all_eq_true.1 h3 e he
  rw [hbe, ii, Bool.false_or] at h4
  have hlt : e.on < j := by simpa [Nat.blt_eq] using h4
  simp only [kQ, hoj]
  refine Array.any_eq_true'.2 ⟨e, by simpa using he, ?_⟩
  rw [hbe, f2, ee]
  rcases hor with rfl | hor
  ·exact .inl (by simp)
  ·exact .inr (xG (by omega) (aDn hA n e.on (by omega) (by omega) hor))
def aNS (ops : Array Oper) (need : Nat → Bool) (anc : AE) (listed : Array Bool) (i : Nat) : Bool :=
 (List.range ops.size).all fun j => Nat.beq j i || need j || (anc.getD j 0).testBit i || listed.getD j true
def aMf {anc : AE} (hA : aDV md ops anc = true) {listed : Array Bool} {i : Nat} (h : aNS ops need anc listed i = true) : aDQ md ops need listed i = true := by
 refine List.all_eq_true.2 fun j hj => ?_
 have h1 := List.all_eq_true.1 h j hj
 have hs := List.mem_range.1 hj
 simp only [ee] at h1 ⊢
 rcases h1 with ((h1 | h1) | h1) | h1
 ·exact .inl (.inl (.inl (by rw [bi h1]; simp)))
 ·exact .inr h1
 ·exact .inl (.inr (xG (by omega) (aDn hA (j + 1) j (by omega) hs h1)))
 ·exact .inl (.inl (.inr h1))
def mU (md : Region.Mode) (ops : Array Oper) (need : Nat → Bool) (anc : AE) : hQ → Nat → Bool → Array Bool → Bool → Bool
 | .done, _, top, listed, _ => top && (Region.ready md ops listed).isEmpty
 | .step true i r, fuel + 1, top, listed, s => top && (!(aB8 ops i) || (s && aNS ops need anc listed i)) && (Region.ready md ops listed).contains i && Region.free md ops listed i && mU md ops need anc r fuel true (listed.setIfInBounds i true) s
 | .step false i r, fuel + 1, top, listed, s => top && (Region.ready md ops listed == [i]) && mU md ops need anc r fuel true (listed.setIfInBounds i true) (s && need i)
 | .fork i r o, fuel + 1, top, listed, s => (!top || Region.ready md ops listed == i :: o.heads) && (Region.ready md ops listed).contains i && mU md ops need anc r fuel true (listed.setIfInBounds i true) (s && need i) && mU md ops need anc o (fuel + 1) false listed s
 | .stop, _, top, _, _ => !top
 | .step _ _ _, 0, _, _, _ => false
 | .fork _ _ _, 0, _, _, _ => false
def sH {anc : AE} (hA : aDV md ops anc = true) : ∀ (pl : hQ) (fuel : Nat) (top : Bool) (listed : Array Bool) (s : Bool), mU md ops need anc pl fuel top listed s = true → gO md ops need pl fuel top listed s = true
 | .done, _, _, _, _, h => h
 | .stop, _, _, _, _, h => h
 | .step true i r, fuel + 1, top, listed, s, h => by
  simp only [mU, gO, al, ee] at h ⊢
  exact ⟨⟨⟨⟨h.1.1.1.1, h.1.1.1.2.imp id fun h2 => ⟨h2.1, aMf hA h2.2⟩⟩, h.1.1.2⟩, h.1.2⟩, sH hA r fuel _ _ _ h.2⟩
 | .step false i r, fuel + 1, top, listed, s, h => by
  simp only [mU, gO, al] at h ⊢
  exact ⟨h.1, sH hA r fuel _ _ _ h.2⟩
 | .fork i r o, fuel + 1, top, listed, s, h => by
  simp only [mU, gO, al] at h ⊢
  exact ⟨⟨h.1.1, sH hA r fuel _ _ _ h.1.2⟩, sH hA o (fuel + 1) _ _ _ h.2⟩
 | .step true _ _, 0, _, _, _, h => by simp [mU] at h
 | .step false _ _, 0, _, _, _, h => by simp [mU] at h
 | .fork _ _ _, 0, _, _, _, h => by simp [mU] at h
end
section
variable {Γ : Ctx} {k : dS} {e : Env} {H : aB}
def aCw {id : Nat} {l : List Oper} (F : aB) (need anc : AE) (pl : hQ) (hm : Γ.P.follows .mixedOrders = true) (hs : wT l.toArray = true) (hA : aDV .any l.toArray anc = true)
  (hB : mU .any l.toArray (fun i => need.any (Nat.beq i)) anc pl l.toArray.size true (Array.replicate l.toArray.size false) true = true)
  (hF : ∀ x ∈ F, x ∈ H) (h : L2 Γ l (fN Γ F) need pl k e H) : C Γ (.region id l.toArray true) k e H :=
 gM F need pl hm hs (sH hA pl _ _ _ _ hB) hF h
end
def tP {α : Type} : List α → Option (List α)
 | [] => some []
 | x :: r => match tP r with
  | some r' => some (x :: r')
  | none => none
def aAN {α : Type} : ∀ {l l' : List α}, tP l = some l' → l = l'
 | [], _, h => by cases h; rfl
 | x :: r, l', h => by
  simp only [tP] at h
  split at h
  ·rename_i r' hr
   cases h
   rw [aAN hr]
  ·cases h
def aHB (off : Nat) : AA → Nat → AA → AA
 | [], _, l => l
 | v :: vs, j, l => aHB off vs (j + 1) (l.set (off + j) v)
def xD (place : Nat → Option (Nat × Nat)) (l : AA) : List (Nat × AH) → Option (List AH)
 | [] => tP l
 | (i, v) :: rest =>
  match place i, qT v with
  | some (off, size), some vs => bif Nat.beq vs.length size && Nat.ble (off + vs.length) l.length then xD place (aHB off vs 0 l) rest else none
  | _, _ => none
def aKQ (off : Nat) : ∀ (vs : AA) (j : Nat) (l : AA),
  (aHB off vs j l).toArray = (vs.zipIdx j).foldl (fun (cs : Array AH) (c : AH × Nat) => cs.setIfInBounds (off + c.2) c.1) l.toArray
 | [], _, _ => rfl
 | v :: vs, j, l => by
  simp only [aHB, List.zipIdx_cons, f6]
  rw [aKQ off vs (j + 1) _]
  congr 1
  simp
def mS {place : Nat → Option (Nat × Nat)} : ∀ {ps : List (Nat × AH)} {l l' : AA}, xD place l ps = some l' → Instr.fill place l.toArray ps = some l'.toArray
 | [], l, l', h => by
  simp only [xD] at h
  rw [aAN h]
  rfl
 | (i, v) :: rest, l, l', h => by
  simp only [xD] at h
  split at h
  ·rename_i off size vs hp hv
   have hc := nW hv
   by_cases hb : (Nat.beq vs.length size && Nat.ble (off + vs.length) l.length) = true
   ·rw [hb, cond_true] at h
    simp only [al] at hb
    have h1 := bi hb.1
    have h2 := ag hb.2
    have h3 := mS h
    simp only [Instr.fill, hp, hc, im]
    rw [if_neg (by simp [h1]; omega)]
    rw [← h3]
    congr 1
    rw [aKQ]
    simp
   ·simp only [iv] at hb
    rw [hb, cond_false] at h
    cases h
  ·cases h
section
variable {Γ : Ctx} {e : Env} {H : aB} {d : AD} {ty : AJ} {pos : String} {af : AG} {g : Option (Nat × Bool)}
def vG (e : Env) : List (Nat × AK) → Option (List (Nat × AH))
 | [] => some []
 | (i, x) :: r => match vnf (ev e x), vG e r with
  | some v, some vs => some ((i, v) :: vs)
  | _, _ => none
def uG {e : Env} : ∀ {l : List (Nat × AK)} {vs : List (Nat × AH)}, vG e l = some vs → l.map (fun p => (p.1, ev e p.2)) = vs
 | [], _, h => by cases h; rfl
 | (i, x) :: r, vs, h => by
  simp only [vG] at h
  split at h
  ·rename_i v us h1 h2
   cases h
   simp only [be, aK h1, uG h2]
  ·cases h
def jT (n : Nat) (z : AA) : AA := (List.range n).map (fun i => z.getD (i % z.length) default)
def aCh (n : Nat) (z : AA) : (Array.range n).map (z.toArray[· % z.toArray.size]!) = (jT n z).toArray := by
 apply Array.ext
 ·simp [jT]
 ·intro i h1 h2
  simp only [jT, Array.getElem_map, Array.getElem_range, List.getElem_toArray, List.getElem_map, List.getElem_range, im, getElem!_def, cy, co]
  cases z[i % z.length]? <;> rfl
def bX {t el : AJ} {len n : Nat} {parts : List (Nat × AK)} {ps : List (Nat × AH)} {l : AA} {z : AA}
  (hu : nL Γ.P t = some (el, n)) (hp : vG e parts = some ps) (hsm : Nat.ble (len * n) 16777216 = true) (hpos : Nat.ble 1 (len * n) = true)
  (hz : mY Γ.P el = some z) (hf : xD (fun i => some (i * n, n)) (jT (len * n) z) ps = some l) :
  Op1 Γ ⟨d, .buildSlice t len parts.toArray, ty, pos, af, g⟩ e H (fun u H' => ∃ b, u = .slice (some ⟨b, 0, none⟩) len len ∧ H' = (b, blk l el) :: H) := by
 obtain ⟨h1, h2⟩ := iR hu
 refine aEN h1 (ps := ps) ?_ h2 hsm hpos hz ?_
 ·have := uG hp
  simpa using this
 ·rw [aCh]
  exact mS hf
def vH (P : AL) : List Field → Option (List (Nat × Nat))
 | [] => some []
 | f :: r => match fH P f.type, vH P r with
  | some s, some ps => some ((f.offset, s) :: ps)
  | _, _ => none
def aQu (P : AL) (t : AJ) : Option (List (Nat × Nat)) :=
 match P.underlying t with
 | some (.struct ⟨fs⟩) => vH P fs
 | _ => none
def aFV {P : AL} : ∀ {fs : List Field} {ps : List (Nat × Nat)}, vH P fs = some ps →
  ∀ {α : Type} (f : Array (Nat × Nat) → Sem α), bM P (fs.toArray.mapM (fun f => do pure (f.offset, ← sizeOf f.type)) >>= f) = bM P (f ps.toArray) := by
 intro fs
 have key : ∀ (fs : List Field) (ps : List (Nat × Nat)), vH P fs = some ps → ∀ {α : Type} (f : List (Nat × Nat) → Sem α), bM P ((fs.mapM (fun f => (do pure (f.offset, ← sizeOf f.type) : Sem (Nat × Nat)))) >>= f) = bM P (f ps) := by
  intro fs
  induction fs with
  | nil => intro ps h α f; cases h; simp
  | cons x r ih =>
   intro ps h α f
   simp only [vH] at h
   split at h
   ·rename_i s ps' h1 h2
    cases h
    simp only [List.mapM_cons, bind_assoc, hY h1, pure_bind]
    rw [ih ps' h2]
   ·cases h
 intro ps h α f
 have h1 := key fs ps h (fun l => f l.toArray)
 rw [← h1]
 simp [List.mapM_toArray]
def eB {t : AJ} {parts : List (Nat × AK)} {ps : List (Nat × AH)} {l z : AA} {pl : List (Nat × Nat)}
  (hu : aQu Γ.P t = some pl) (hz : mY Γ.P t = some z) (hp : vG e parts = some ps) (hf : xD (fun i => pl[i]?) z ps = some l) :
  bH Γ.P e ⟨d, .build t parts.toArray, ty, pos, af, g⟩ = some (.agg l.toArray) := by
 refine aX ?_ rfl
 unfold aQu at hu
 split at hu
 ·rename_i fs h1
  have hpp := uG hp
  have hfl := mS hf
  have hzz : ∀ {α : Type} (f : AH → Sem α), ∃ zv : AH, zv.cells = z.toArray ∧ bM Γ.P (zeroValue t >>= f) = bM Γ.P (f zv) := by
   intro α f
   unfold mY at hz
   split at hz
   ·rename_i i hi
    split at hz
    ·rename_i zv hzv
     refine ⟨zv, nW hz, ?_⟩
     simp [zeroValue, typeInfo, program, bind, Sem.bind, bM, hi, hzv, pure]
    ·cases hz
   ·cases hz
  simp only [execOp, Instr.build, bind_assoc]
  obtain ⟨zv, hzc, hzr⟩ := hzz (fun zero => underlying t >>= fun d => _)
  rw [hzr, bI h1]
  simp only [bind_assoc]
  rw [aFV hu]
  have h9 : ((List.toArray parts).map fun (i, x) => (i, ev e x)).toList = ps := by simpa using hpp
  simp only [h9, hzc, cy, hfl]
  rfl
 ·cases hu
def aRc (P : AL) (t f : Nat) : AD :=
 match P.underlying t with
 | some (.struct ⟨fs⟩) => match fs[f]? with
  | some ⟨_, ft, o, _, _, _, _⟩ => match fH P ft with
   | some (_ + 1) => some o
   | _ => none
  | none => none
 | _ => none
def qE {t f o b off : Nat} {x : AK} (hu : aRc Γ.P t f = some o) (hx : vnf (ev e x) = some (.pointer (some ⟨b, off, none⟩))) :
  bH Γ.P e ⟨d, .fieldAddr t x f, ty, pos, af, g⟩ = some (.pointer (some ⟨b, off + o, none⟩)) := by
 refine aX ?_ rfl
 have hx := aK hx
 unfold aRc at hu
 split at hu
 ·rename_i fs h1
  split at hu
  ·rename_i nm ft o' em tg pp bo h2
   split at hu
   ·rename_i k h3
    cases hu
    have h4 : (fs.toArray)[f]? = some ⟨nm, ft, o, em, tg, pp, bo⟩ := by simpa using h2
    simp only [execOp, Instr.fieldAt, bind_assoc, bI h1, h4, hx, Instr.sureAddr, eK, fieldPlace, hY h3]
    simp [sE, bM, pure, bind, Sem.bind]
   ·cases hu
  ·cases hu
 ·cases hu
def aQZ (P : AL) (t f : Nat) : Option (Nat × Nat) :=
 match P.underlying t with
 | some (.struct ⟨fs⟩) => match fs[f]? with
  | some ⟨_, ft, o, _, _, _, _⟩ => some (ft, o)
  | none => none
 | _ => none
def wB {t f ft o : Nat} {x : AK} {l : AA} {v u : AH} (hu : aQZ Γ.P t f = some (ft, o)) (hs : lF Γ.P ft = true) (hx : vnf (ev e x) = some (.agg ⟨l⟩)) (hv : l[o]? = some u) (hw : vnf u = some v) :
  bH Γ.P e ⟨d, .field t x f, ty, pos, af, g⟩ = some v := by
 have hn := aK hw
 subst hn
 refine aX ?_ hw
 have hx := aK hx
 unfold aQZ at hu
 split at hu
 ·rename_i fs h1
  split at hu
  ·rename_i nm ft' o' em tg pp bo h2
   cases hu
   have h4 : (fs.toArray)[f]? = some ⟨nm, ft, o, em, tg, pp, bo⟩ := by simpa using h2
   have h5 : ∀ {α : Type} (K : Bool → Sem α), bM Γ.P (isAgg ft >>= K) = bM Γ.P (K false) := by
    intro α K
    unfold lF at hs
    split at hs <;> try cases hs
    rename_i D hd1 hd2 hd
    simp only [isAgg, bind_assoc, bI hd]
    cases D <;> first | rfl | (exfalso; exact hd1 _ rfl) | (exfalso; exact hd2 _ _ rfl)
   simp only [execOp, Instr.field, bind_assoc, bI h1, h4, hx, asAgg, eK, part, h5]
   have h6 : (Array.mk l)[o]? = some u := by simpa using hv
   simp [h6, bM, pure, bind, Sem.bind]
  ·cases hu
 ·cases hu
end
end Go.VV
namespace Go.VV
open Go
def aI {n : Int} (h1 : -9223372036854775808 ≤ n) (h2 : n ≤ 9223372036854775807) : IntKind.i64.wrap n = n := by
 simp [IntKind.wrap, IntKind.bits, IntKind.signed]; omega
def eX (n : Int) : IntKind.u8.wrap n = n % 256 := by
 simp [IntKind.wrap, IntKind.bits, IntKind.signed]
def eT (n : Int) : IntKind.u16.wrap n = n % 65536 := by
 simp [IntKind.wrap, IntKind.bits, IntKind.signed]
def aBf (n : Int) : IntKind.u64.wrap n = n % 18446744073709551616 := by
 simp [IntKind.wrap, IntKind.bits, IntKind.signed]
def oU {n : Int} (h1 : 0 ≤ n) (h2 : n < 256) : IntKind.u8.wrap n = n := by rw [eX]; omega
def eV {n : Int} (h1 : 0 ≤ n) (h2 : n < 65536) : IntKind.u16.wrap n = n := by rw [eT]; omega
def iT {n : Int} (h1 : 0 ≤ n) (h2 : n < 18446744073709551616) : IntKind.u64.wrap n = n := by rw [aBf]; omega
def bB {k : Nat} (h : (k : Int) < 9223372036854775807) : IntKind.i64.wrap ((k : Int) + 1) = ((k + 1 : Nat) : Int) := by
 rw [aI (by omega) (by omega)]; simp
def aG (k : AM) (x y : Int) : Int := k.wrap (BitVec.ofInt k.bits x &&& BitVec.ofInt k.bits y).toNat
def bor (k : AM) (x y : Int) : Int := k.wrap (BitVec.ofInt k.bits x ||| BitVec.ofInt k.bits y).toNat
def jZ (k : AM) (x y : Int) : Int := k.wrap (BitVec.ofInt k.bits x ^^^ BitVec.ofInt k.bits y).toNat
def iO (k : AM) (x y : Int) : Int := k.wrap (BitVec.ofInt k.bits x &&& ~~~BitVec.ofInt k.bits y).toNat
def shr (k : AM) (x y : Int) : Int := x.fdiv (2 ^ min y.toNat k.bits)
def shl (k : AM) (x y : Int) : Int := k.wrap (x * 2 ^ min y.toNat k.bits)
def aW {p : Int → Prop} (h : ∀ n : Fin 256, p (n.val : Int)) {c : Int} (h1 : 0 ≤ c) (h2 : c < 256) : p c := by
 have := h ⟨c.toNat, by omega⟩
 simp only at this
 rwa [cu h1] at this
def Ns (w : AI) (k : AM) (a : AC) (l : AB) : Prop := 0 < l.length → ∃ b off, a = some ⟨b, off, none⟩ ∧ Row w b off (l.map (.int k))
def Ns.nil (w : AI) (k : AM) (a : AC) : Ns w k a [] := fun h => by simp at h
def Ns.row {w : AI} {k : AM} {a : AC} {l : AB} (h : Ns w k a l) {i : Nat} (hi : i < l.length) : ∃ b off, a = some ⟨b, off, none⟩ ∧ Row w b off (l.map (.int k)) := h (by omega)
def Ns.of {w : AI} {k : AM} {b off : Nat} {l : AB} (h : Row w b off (l.map (.int k))) : Ns w k (some ⟨b, off, none⟩) l := fun _ => ⟨b, off, rfl, h⟩
def Ns.later {w0 w : AI} {ms : AE} {H : aB} {k : AM} {a : AC} {l : AB} (h : Ns w0 k a l) (hm : ∀ p, a = some p → p.block ∉ ms) (hw : St w0 ms H w) : Ns w k a l := fun hl => by
 obtain ⟨b, off, rfl, hr⟩ := h hl
 exact ⟨b, off, rfl, aR hr (hm _ rfl) w hw⟩
def Ns.later0 {w0 w : AI} {H : aB} {k : AM} {a : AC} {l : AB} (h : Ns w0 k a l) (hw : St w0 [] H w) : Ns w k a l := h.later (by simp) hw
def Row.int {w : AI} {k : AM} {b off : Nat} {l : AB} (h : Row w b off (l.map (.int k))) {i : Nat} (hi : i < l.length) : w.cell? ⟨b, off + i, none⟩ = some (.int k (l.getD i 0)) :=
 h i _ (by simp [hi])
def jF (k : AM) (l : AB) : fE (l.map (.int k)) = true := by simp [fE, Value.oneCell']
def aMI {l l' : AA} (h : fE l = true) (hs : ∀ x ∈ l', x ∈ l) : fE l' = true := List.all_eq_true.2 fun x hx => List.all_eq_true.1 h x (hs x hx)
def aMF (k : AM) (l : AB) (i n : Nat) : fE (((l.map (Value.int k)).drop i).take n) = true := aMI (jF k l) fun _ hx => ef (du hx)
def aY (l : AB) : Prop := ∀ x ∈ l, 0 ≤ x ∧ x < 256
def aY.get {l : AB} (h : aY l) (i : Nat) : 0 ≤ l.getD i 0 ∧ l.getD i 0 < 256 := by
 by_cases hi : i < l.length
 ·rw [co, am hi]; exact h _ (fh hi)
 ·rw [co, da (by omega)]; simp
section
variable {P : AL} {e : Env} {d : AD} {ty t u : AJ} {pos : String} {af : AG} {g : Option (Nat × Bool)} {x y : AK} {k : AM} {a b : Int}
def kE (hx : vnf (ev e x) = some (.int k a)) (hy : vnf (ev e y) = some (.int k b)) (hb : b ≠ 0) :
  bH P e ⟨d, .binOp .rem t x y u, ty, pos, af, g⟩ = some (.int k (a.tmod b)) := by
 refine aX ?_ rfl
 simp [execOp, eqGuard, aK hx, aK hy, binOp, Op.intDiv, hb, bM, bind, Sem.bind, pure]
def dK {k2 : AM} (hx : vnf (ev e x) = some (.int k a)) (hy : vnf (ev e y) = some (.int k2 b)) (hb : 0 ≤ b) :
  bH P e ⟨d, .binOp .shr t x y u, ty, pos, af, g⟩ = some (.int k (shr k a b)) := by
 refine aX ?_ rfl
 have : ¬ b < 0 := by omega
 simp [execOp, eqGuard, aK hx, aK hy, binOp, Op.shift, this, bM, bind, Sem.bind, pure, shr]
def dJ {k2 : AM} (hx : vnf (ev e x) = some (.int k a)) (hy : vnf (ev e y) = some (.int k2 b)) (hb : 0 ≤ b) :
  bH P e ⟨d, .binOp .shl t x y u, ty, pos, af, g⟩ = some (.int k (shl k a b)) := by
 refine aX ?_ rfl
 have : ¬ b < 0 := by omega
 simp [execOp, eqGuard, aK hx, aK hy, binOp, Op.shift, this, bM, bind, Sem.bind, pure, shl]
def aDX (P : AL) (t : AJ) : Bool := match P.underlying t with
 | some (.slice _) => true
 | _ => false
def aDh {a : AC} {n c : Nat} (hx : vnf (ev e x) = some (.slice a n c)) (hu : aDX P t = true) :
  bH P e ⟨d, .call ⟨.builtin .len, #[x], #[t]⟩, ty, pos, af, g⟩ = some (.int .i64 n) := by
 refine aX ?_ rfl
 have hx := aK hx
 unfold aDX at hu
 split at hu
 ·rename_i el h1
  simp only [execOp, resolve, cj, be, ct, hx, eK, invoke, builtin, Builtin.len_, bind_assoc, cy, dt, bI h1]
  rfl
 ·cases hu
def aBw {s : ByteArray} (hx : vnf (ev e x) = some (.string s)) (hu : P.underlying t = some .string) :
  bH P e ⟨d, .call ⟨.builtin .len, #[x], #[t]⟩, ty, pos, af, g⟩ = some (.int .i64 s.size) := by
 refine aX ?_ rfl
 have hx := aK hx
 simp only [execOp, resolve, cj, be, ct, hx, eK, invoke, builtin, Builtin.len_, bind_assoc, cy, dt, bI hu]
 rfl
def kL {k2 : AM} {ts : Array AJ} (hx : vnf (ev e x) = some (.int k a)) (hy : vnf (ev e y) = some (.int k2 b)) :
  bH P e ⟨d, .call ⟨.builtin .min, #[x, y], ts⟩, ty, pos, af, g⟩ = some (.int k (min a b)) := by
 refine aX ?_ rfl
 have hx := aK hx
 have hy := aK hy
 have hm : (if b < a then b else a) = min a b := by omega
 simp only [execOp, resolve, cj, be, ct, hx, hy, eK, invoke, builtin, Builtin.min_, bind_assoc, List.foldlM_cons, List.foldlM_nil, Builtin.min2, hm]
 rfl
def kN {k2 : AM} {ts : Array AJ} (hx : vnf (ev e x) = some (.int k a)) (hy : vnf (ev e y) = some (.int k2 b)) :
  bH P e ⟨d, .call ⟨.builtin .max, #[x, y], ts⟩, ty, pos, af, g⟩ = some (.int k (max a b)) := by
 refine aX ?_ rfl
 have hx := aK hx
 have hy := aK hy
 have hm : (if b > a then b else a) = max a b := by omega
 simp only [execOp, resolve, cj, be, ct, hx, hy, eK, invoke, builtin, Builtin.max_, bind_assoc, List.foldlM_cons, List.foldlM_nil, Builtin.max2, hm]
 rfl
end
section
variable {P : AL} {Γ : Ctx} {k : dS} {e : Env} {H F : aB} {ops rest : List Oper} {d : AD} {op : Op} {t : AJ} {pos : String} {af : AG} {g : Option (Nat × Bool)}
 {need : AE} {pl : hQ} {i : Nat}
def dT {b : Bool} (c : Bool) (hl : bH Γ.P e ⟨d, op, t, pos, af, g⟩ = some (.bool b)) (hg : gdB ops e ⟨d, op, t, pos, af, g⟩ = true) (hd : cJ Γ.n d = true) (hb : b = c)
  (h : L1 Γ ops rest k (e.put d (.bool c)) H) : L1 Γ ops (⟨d, op, t, pos, af, g⟩ :: rest) k e H := by subst hb; exact l_l hl hg hd h
def uY {b : Bool} {S : AI → Prop} (c : Bool) (ho : ops[i]? = some ⟨d, op, t, pos, af, g⟩) (hl : bH Γ.P e ⟨d, op, t, pos, af, g⟩ = some (.bool b)) (hg : gdB ops e ⟨d, op, t, pos, af, g⟩ = true) (hd : cJ Γ.n d = true) (hb : b = c)
  (h : L2 Γ ops S need pl k (e.put d (.bool c)) H) : L2 Γ ops S need (.step true i pl) k e H := by subst hb; exact pN ho hl rfl hg hd h
def fK {c : AK} {x y : Code} {t : Bool} (b : Bool) (hc : ev e c = .bool t) (hb : t = b) (h : C Γ (if b then x else y) k e H) : C Γ (.cond c x y) k e H := by
 subst hb
 exact aBM hc (fun ht => by rw [ht] at h; exact h) (fun ht => by rw [ht] at h; exact h)
def aSM {v u : AH} (hl : bH Γ.P e ⟨d, op, t, pos, af, g⟩ = some u) (hg : gdB ops e ⟨d, op, t, pos, af, g⟩ = true) (hd : cJ Γ.n d = true) (hv : u = v)
  (h : L1 Γ ops rest k (e.put d v) H) : L1 Γ ops (⟨d, op, t, pos, af, g⟩ :: rest) k e H := by subst hv; exact l_l hl hg hd h
def aSF {v u : AH} {S : AI → Prop} (ho : ops[i]? = some ⟨d, op, t, pos, af, g⟩) (hl : bH Γ.P e ⟨d, op, t, pos, af, g⟩ = some u) (hu : nJ u = true) (hg : gdB ops e ⟨d, op, t, pos, af, g⟩ = true) (hd : cJ Γ.n d = true) (hv : u = v)
  (h : L2 Γ ops S need pl k (e.put d v) H) : L2 Γ ops S need (.step true i pl) k e H := by subst hv; exact pN ho hl hu hg hd h
def aHK {x : AK} {v : AH} (hx : ev e x = v) (hg : gdB ops e ⟨d, .move x, t, pos, af, g⟩ = true) (hd : cJ Γ.n d = true)
  (h : L1 Γ ops rest k (e.put d v) H) : L1 Γ ops (⟨d, .move x, t, pos, af, g⟩ :: rest) k e H :=
 aHg (K := fun u H' => u = v ∧ H' = H) hg hd (fun _ hw => cY (by simp only [execOp]; rw [hx]; rfl) ⟨H, hw, rfl, rfl⟩) (by rintro _ _ ⟨rfl, rfl⟩; exact h)
def uA {x : AK} {v : AH} (hx : ev e x = v) (hg : gdB ops e ⟨d, .assign x, t, pos, af, g⟩ = true) (hd : cJ Γ.n d = true)
  (h : L1 Γ ops rest k (e.put d v) H) : L1 Γ ops (⟨d, .assign x, t, pos, af, g⟩ :: rest) k e H :=
 aHg (K := fun u H' => u = v ∧ H' = H) hg hd (fun _ hw => cY (by simp only [execOp]; rw [hx]; rfl) ⟨H, hw, rfl, rfl⟩) (by rintro _ _ ⟨rfl, rfl⟩; exact h)
def aSU {S : AI → Prop} {x : AK} {v : AH} (ho : ops[i]? = some ⟨d, .move x, t, pos, af, g⟩) (hx : ev e x = v) (hg : gdB ops e ⟨d, .move x, t, pos, af, g⟩ = true) (hd : cJ Γ.n d = true)
  (h : L2 Γ ops S need pl k (e.put d v) H) : L2 Γ ops S need (.step true i pl) k e H :=
 rX ho hg hd (fun w _ => by simp only [execOp]; rw [hx]; rfl) h
def aRO {S : AI → Prop} {x : AK} {v : AH} (ho : ops[i]? = some ⟨d, .assign x, t, pos, af, g⟩) (hx : ev e x = v) (hg : gdB ops e ⟨d, .assign x, t, pos, af, g⟩ = true) (hd : cJ Γ.n d = true)
  (h : L2 Γ ops S need pl k (e.put d v) H) : L2 Γ ops S need (.step true i pl) k e H :=
 rX ho hg hd (fun w _ => by simp only [execOp]; rw [hx]; rfl) h
def aZ {f : Nat} {l : AF} {ts : Array AJ} {vs : AA} {u : AH} (hc : cL Γ.P f = true) (hv : evs e l = some vs)
  (hf : ∀ w, St Γ.w0 Γ.ms H w → aC Γ.P f vs w [] (fun v H => H = [] ∧ v = u)) :
  Op1 Γ ⟨d, .call ⟨.value (.func f), l.toArray, ts⟩, t, pos, af, g⟩ e H (fun v H' => v = u ∧ H' = H) := fun w hw => by
 refine iG (dE hc hv hf w hw) ?_
 rintro v w' ⟨H', h1, H2, ⟨h2, h3⟩, h4⟩
 subst h2 h4
 exact ⟨_, h1, h3, rfl⟩
def aBn (P : AL) (el c : Nat) : Bool := match P.info? el with
 | some i => Nat.ble (c * i.bytes) 140737488355328 && Nat.blt 0 i.bytes
 | none => false
def aIc {P : AL} {el c : Nat} (h : aBn P el c = true) : ∃ i, P.info? el = some i ∧ c * i.bytes ≤ 140737488355328 ∧ 0 < i.bytes := by
 unfold aBn at h
 split at h
 ·rename_i i hi
  simp only [al] at h
  exact ⟨i, hi, ag h.1, de (gr) (ag h.2)⟩
 ·cases h
def aQs {tt el n s : Nat} {x y : AK} {k1 k2 : AM} {a b : Int} {z : AA} {c : Nat} (hx : vnf (ev e x) = some (.int k1 a)) (hy : vnf (ev e y) = some (.int k2 b)) (ha : a = (n : Int)) (hb : b = (c : Int)) (hnc : n ≤ c)
  (hu : nL Γ.P tt = some (el, s)) (hz : mY Γ.P el = some z) (hpos : Nat.blt 0 (c * s) = true) (hby : aBn Γ.P el c = true) :
  Op1 Γ ⟨d, .makeSlice tt x y, t, pos, af, g⟩ e H (fun u H' => ∃ b, u = .slice (some ⟨b, 0, none⟩) n c ∧ H' = (b, blk (jT (c * s) z) el) :: H) := by
 intro w hw
 obtain ⟨h1, h2⟩ := iR hu
 have hx := aK hx
 have hy := aK hy
 obtain ⟨zv, hzv, hzc⟩ := xH hz w
 obtain ⟨i, hi, hb2, hb3⟩ := aIc hby
 have hpos : 0 < c * s := de (gr) (ag hpos)
 subst ha hb
 have hc : c ≤ 140737488355328 := f7 (Nat.le_mul_of_pos_right c hb3) hb2
 have hw1 : IntKind.i64.wrap (n : Int) = n := aI (by omega) (by omega)
 have hw2 : IntKind.i64.wrap (c : Int) = c := aI (by omega) (by omega)
 have key : (Instr.makeSlice tt (.int k1 n) (.int k2 c)).run Γ.P w = .ok (.slice (some ⟨w.heap.size, 0, none⟩) n c) (w.alloc (blk (jT (c * s) z) el)) := by
  unfold Instr.makeSlice
  have e1 : (typeInfo el).run Γ.P w = .ok i w := by simp [typeInfo, hi]
  have e2 : ((i.bytes : Int) * (c : Int)) ≤ 140737488355328 := by
   rw [← i4, Nat.mul_comm]; exact Int.ofNat_le.2 hb2
  have hbad : (decide ((c : Int) < 0) || decide ((i.bytes : Int) * (c : Int) > 281474976710656) || decide ((n : Int) < 0) || decide ((n : Int) > c)) = false := by
   simp only [Bool.or_eq_false_iff, decide_eq_false_iff_not]
   refine ⟨⟨⟨by omega, by omega⟩, by omega⟩, by omega⟩
  have hcz : ¬ c * s = 0 := by omega
  simp only [ak, run_underlying h1, ai, asInt, asIntOf, av, e1, hw1, hw2]
  have hpow : ((2 : Int) ^ 48) = 281474976710656 := by decide
  simp only [hpow, hbad, Bool.false_eq_true, if_false, ak, run_askRoom, fM h2, ai, bj, hcz, hzv, av, hzc, aCh]
  rfl
 refine cY (v := .slice (some ⟨w.heap.size, 0, none⟩) n c) (w' := w.alloc (blk (jT (c * s) z) el)) ?_ ⟨_, hw.alloc _, _, rfl, rfl⟩
 simp only [execOp, hx, hy, ak, key, ai, av]
def aB1 (G : aB) (k : AM) (a : AC) (l : AB) : Prop :=
 0 < l.length → ∃ b off, a = some ⟨b, off, none⟩ ∧ ∀ w : AI, (∀ x ∈ G, w.heap[x.1]? = some x.2) → Row w b off (l.map (.int k))
def aB1.nil (G : aB) (k : AM) (a : AC) : aB1 G k a [] := fun h => by simp at h
def aB1.row {G : aB} {k : AM} {a : AC} {l : AB} (h : aB1 G k a l) {i : Nat} (hi : i < l.length) :
  ∃ b off, a = some ⟨b, off, none⟩ ∧ ∀ w : AI, (∀ x ∈ G, w.heap[x.1]? = some x.2) → Row w b off (l.map (.int k)) := h (by omega)
def aMr {G : aB} {w0 : AI} {ms : AE} {k : AM} {b off : Nat} {l : AB} (hr : ∀ w : AI, (∀ x ∈ G, w.heap[x.1]? = some x.2) → Row w b off (l.map (.int k))) (hs : ∀ x ∈ G, x ∈ H) {i : Nat} (hi : i < l.length) :
  ∀ w, St w0 ms H w → w.cell? ⟨b, off + i, none⟩ = some (.int k (l.getD i 0)) := fun w hw => (hr w fun x hx => hw.holds x (hs x hx)).int hi
def Lst (k : AM) (l : AB) (v : AH) (H : aB) : Prop := ∃ a c, v = .slice a l.length c ∧ l.length ≤ c ∧ aB1 H k a l
def Lst.nil {k : AM} : Lst k [] (.slice none 0 0) [] := ⟨none, 0, rfl, ax _, .nil _ _ _⟩
def Lst.of_row {k : AM} {l : AB} {b n c T : Nat} {L : AA} {fr : Nat × Nat} (hn : n = l.length) (hc : l.length ≤ c) (hl : ∀ (j : Nat) (v : AH), (l.map (Value.int k))[j]? = some v → L[j]? = some v) :
  Lst k l (.slice (some ⟨b, 0, none⟩) n c) [(b, .cells L.toArray T fr)] := by
 subst hn
 refine ⟨_, c, rfl, hc, fun _ => ⟨b, 0, rfl, fun w hw => ?_⟩⟩
 exact Row.of_blk (cs := L.toArray) (t := T) (fr := fr) (hw _ (.head _)) (fun j v hv => by simpa using hl j v hv)
def aLK (n : Nat) (z : AH) : jT n [z] = List.replicate n z := by
 apply List.ext_getElem
 ·simp [jT]
 ·intro i h1 h2
  simp [jT, Nat.mod_one]
end
end Go.VV
