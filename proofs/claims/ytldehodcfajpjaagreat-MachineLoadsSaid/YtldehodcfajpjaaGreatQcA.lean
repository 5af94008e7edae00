/- Regions that draw their order, over a symbolic state: one walk of a plan serves every order. Plain lemmas; no program. -/
import Derived.Below
import Derived.OrdersHeld
import Derived.OrdersIn
import Derived.RangeFuncIn
import Derived.RangeFuncLeaves
import Derived.TacticsIn
set_option linter.unusedSimpArgs false
set_option linter.unusedVariables false
set_option maxRecDepth 100000
namespace Go.VV
open Go Go.RowKit
abbrev Env := Nat → Value
def Env.set (e : Env) (d : Nat) (v : Value) : Env := fun t => bif Nat.beq t d then v else e t
def Env.put (e : Env) : Option Nat → Value → Env
 | some d, v => e.set d v
 | none, _ => e
def ev (e : Env) : Operand → Value
 | .tmp t => e t
 | .const v => v
 | .global g => .pointer (some ⟨g, 0, none⟩)
 | .func f => .func (.func f) #[] #[]
structure Rep (n : Nat) (D : List Deferred) (e : Env) (a : Act) : Prop where
 defers : a.defers = D
 size : a.tmps.size = n
 look : e = fun t => a.tmps.getD t undef
theorem Rep.eval {n : Nat} {D : List Deferred} {e : Env} {a : Act} (h : Rep n D e a) : a.eval = ev e := by
 funext x
 cases x <;> simp [Act.eval, ev, h.look]
def dstOk (n : Nat) : Option Nat → Bool
 | some d => Nat.blt d n
 | none => true
theorem Rep.put {n : Nat} {D : List Deferred} {e : Env} {a : Act} (h : Rep n D e a) {d : Option Nat} (hd : dstOk n d = true) (v : Value) : Rep n D (e.put d v) (a.put d v) := by
 cases d with
 | none => exact h
 | some d =>
  have hlt : d < n := by simpa [dstOk] using hd
  refine ⟨h.defers, by simp [Act.put, h.size], ?_⟩
  funext t
  have hs := h.size
  simp only [Env.put, Env.set, Act.put, h.look]
  by_cases ht : t = d
  ·subst ht
   simp [hs, hlt]
  ·have hb : Nat.beq t d = false := by
    cases hx : Nat.beq t d
    ·rfl
    ·exact absurd (Nat.eq_of_beq_eq_true hx) ht
   simp [hb, Array.getElem?_setIfInBounds_ne (Ne.symm ht)]
abbrev Heap := List (Nat × Obj)
structure St (w0 : World) (ms : List Nat) (L : Heap) (w : World) : Prop where
 os : w.os = w0.os
 tape : w.tape = w0.tape
 output : w.output = w0.output
 size : w0.heap.size ≤ w.heap.size
 block : ∀ k, k < w0.heap.size → k ∉ ms → w.heap[k]? = w0.heap[k]?
 nodup : (L.map (·.1)).Nodup
 own : ∀ x ∈ L, x.1 ∈ ms ∨ w0.heap.size ≤ x.1
 holds : ∀ x ∈ L, w.heap[x.1]? = some x.2
theorem St.refl (w : World) : St w [] [] w := ⟨rfl, rfl, rfl, Nat.le_refl _, fun _ _ _ => rfl, by simp, by simp, by simp⟩
theorem St.drew {w0 w : World} {ms : List Nat} {L : Heap} (h : St w0 ms L w) : St w0 ms L { w with drawn := w.drawn + 1 } :=
 ⟨h.os, h.tape, h.output, h.size, h.block, h.nodup, h.own, h.holds⟩
theorem St.lt {w0 w : World} {ms : List Nat} {L : Heap} (h : St w0 ms L w) {x : Nat × Obj} (hx : x ∈ L) : x.1 < w.heap.size := by
 have := h.holds x hx
 by_cases hlt : x.1 < w.heap.size
 ·exact hlt
 ·rw [Array.getElem?_eq_none (by omega)] at this; cases this
theorem St.sub {w0 w : World} {ms : List Nat} {L L' : Heap} (h : St w0 ms L w) (hs : L'.Sublist L) : St w0 ms L' w :=
 ⟨h.os, h.tape, h.output, h.size, h.block, (hs.map _).nodup h.nodup, fun x hx => h.own x (hs.subset hx), fun x hx => h.holds x (hs.subset hx)⟩
theorem St.perm {w0 w : World} {ms : List Nat} {L L' : Heap} (h : St w0 ms L w) (hs : L.Perm L') : St w0 ms L' w :=
 ⟨h.os, h.tape, h.output, h.size, h.block, (hs.map _).nodup_iff.1 h.nodup, fun x hx => h.own x (hs.symm.subset hx), fun x hx => h.holds x (hs.symm.subset hx)⟩
theorem St.alloc {w0 w : World} {ms : List Nat} {L : Heap} (h : St w0 ms L w) (o : Obj) : St w0 ms ((w.heap.size, o) :: L) (w.alloc o) := by
 refine ⟨h.os, h.tape, h.output, ?_, ?_, ?_, ?_, ?_⟩
 ·have := h.size; show _ ≤ (w.heap.push o).size; simp; omega
 ·intro k hk hm
  show (w.heap.push o)[k]? = _
  have := h.size
  rw [Array.getElem?_push, if_neg (by omega)]
  exact h.block k hk hm
 ·simp only [List.map_cons, List.nodup_cons]
  refine ⟨fun hm => ?_, h.nodup⟩
  obtain ⟨x, hx, hxe⟩ := List.mem_map.1 hm
  have := h.lt hx
  omega
 ·intro x hx
  rcases List.mem_cons.1 hx with rfl | hx
  ·exact .inr h.size
  ·exact h.own x hx
 ·intro x hx
  show (w.heap.push o)[x.1]? = _
  rcases List.mem_cons.1 hx with rfl | hx
  ·simp
  ·have := h.lt hx
   rw [Array.getElem?_push, if_neg (by omega)]
   exact h.holds x hx
theorem St.turn {w0 w w' : World} {ms : List Nat} {L : Heap} {b : Nat} {o o' : Obj} (h : St w0 ms ((b, o) :: L) w)
  (h1 : w'.os = w.os) (h2 : w'.tape = w.tape) (h3 : w'.output = w.output) (h4 : w'.heap.size = w.heap.size)
  (h5 : ∀ k, k ≠ b → w'.heap[k]? = w.heap[k]?) (h6 : w'.heap[b]? = some o') : St w0 ms ((b, o') :: L) w' := by
 have hnd := h.nodup
 simp only [List.map_cons, List.nodup_cons] at hnd
 refine ⟨h1.trans h.os, h2.trans h.tape, h3.trans h.output, by rw [h4]; exact h.size, ?_, ?_, ?_, ?_⟩
 ·intro k hk hm
  by_cases hkb : k = b
  ·subst hkb
   rcases h.own (k, o) (by simp) with h7 | h7
   ·exact absurd h7 hm
   ·simp at h7; omega
  ·rw [h5 k hkb]; exact h.block k hk hm
 ·simpa using hnd
 ·intro x hx
  rcases List.mem_cons.1 hx with rfl | hx
  ·exact h.own (b, o) (by simp)
  ·exact h.own x (by simp [hx])
 ·intro x hx
  rcases List.mem_cons.1 hx with rfl | hx
  ·exact h6
  ·have hne : x.1 ≠ b := fun he => hnd.1 (he ▸ List.mem_map.2 ⟨x, hx, rfl⟩)
   rw [h5 _ hne]
   exact h.holds x (by simp [hx])
theorem St.old {w0 w : World} {ms : List Nat} {L : Heap} (h : St w0 ms L w) {b : Nat} {o : Obj} (hb : w0.heap[b]? = some o) (hm : b ∉ ms) : w.heap[b]? = some o := by
 have hlt : b < w0.heap.size := by
  by_cases hlt : b < w0.heap.size
  ·exact hlt
  ·rw [Array.getElem?_eq_none (by omega)] at hb; cases hb
 rw [h.block b hlt hm]; exact hb
theorem St.call {w0 w w' : World} {ms ms2 : List Nat} {F F' R : Heap} (h : St w0 ms (F ++ R) w) (hms : ∀ b ∈ ms2, ∃ o, (b, o) ∈ F) (h' : St w ms2 F' w') : St w0 ms (F' ++ R) w' := by
 have hsz := h.size
 have key : ∀ b ∈ ms2, b ∈ ms ∨ w0.heap.size ≤ b := fun b hb => by
  obtain ⟨o, ho⟩ := hms b hb
  exact h.own (b, o) (by simp [ho])
 have hnd := h.nodup
 rw [List.map_append, List.nodup_append] at hnd
 obtain ⟨hF, hR, hFR⟩ := hnd
 have hRlt : ∀ x ∈ R, x.1 < w.heap.size := fun x hx => h.lt (by simp [hx])
 have hRm : ∀ x ∈ R, x.1 ∉ ms2 := fun x hx hm => by
  obtain ⟨o, ho⟩ := hms _ hm
  exact hFR _ (List.mem_map.2 ⟨_, ho, rfl⟩) _ (List.mem_map.2 ⟨x, hx, rfl⟩) rfl
 refine ⟨h'.os.trans h.os, h'.tape.trans h.tape, h'.output.trans h.output, Nat.le_trans hsz h'.size, ?_, ?_, ?_, ?_⟩
 ·intro k hk hm
  by_cases hk2 : k ∈ ms2
  ·rcases key k hk2 with h1 | h1
   ·exact absurd h1 hm
   ·omega
  ·rw [h'.block k (by omega) hk2]; exact h.block k hk hm
 ·rw [List.map_append, List.nodup_append]
  refine ⟨h'.nodup, hR, ?_⟩
  intro a ha b hb hab
  obtain ⟨x, hx, rfl⟩ := List.mem_map.1 ha
  obtain ⟨y, hy, rfl⟩ := List.mem_map.1 hb
  rcases h'.own x hx with h1 | h1
  ·exact hRm y hy (hab ▸ h1)
  ·have := hRlt y hy; omega
 ·intro x hx
  rcases List.mem_append.1 hx with hx | hx
  ·rcases h'.own x hx with h1 | h1
   ·exact key _ h1
   ·exact .inr (by omega)
  ·exact h.own x (by simp [hx])
 ·intro x hx
  rcases List.mem_append.1 hx with hx | hx
  ·exact h'.holds x hx
  ·rw [h'.block x.1 (hRlt x hx) (hRm x hx)]
   exact h.holds x (by simp [hx])
structure Kont where
 N : Env → Heap → Prop
 R : Env → Heap → Prop
 X : List (Nat × (Env → Heap → Prop))
def seek : List (Nat × (Env → Heap → Prop)) → Nat → Option (Env → Heap → Prop)
 | [], _ => none
 | (i, K) :: r, j => bif Nat.beq i j then some K else seek r j
def Kont.at (k : Kont) : Exit → Env → Heap → Prop
 | .normal, e, L => k.N e L
 | .ret, e, L => k.R e L
 | .exit id, e, L => match seek k.X id with
  | some K => K e L
  | none => False
 | _, _, _ => False
def Q (n : Nat) (D : List Deferred) (w0 : World) (ms : List Nat) (k : Kont) (x : Exit) (a : Act) (w : World) : Prop :=
 ∃ e L, Rep n D e a ∧ St w0 ms L w ∧ k.at x e L
structure Ctx where
 P : Program
 n : Nat
 w0 : World
 ms : List Nat
 r : Option Nat := none
 D : List Deferred := []
def Fr (r : Option Nat) : Fence := { fn := fun _ => True, depth := none, alive := false, round := r }
def C (Γ : Ctx) (c : Code) (k : Kont) (e : Env) (L : Heap) : Prop :=
 ∀ a w, Rep Γ.n Γ.D e a → St Γ.w0 Γ.ms L w → Code.wpIn (Fr Γ.r) 0 Γ.P c (Q Γ.n Γ.D Γ.w0 Γ.ms k) a w
theorem Q.mono {n : Nat} {D : List Deferred} {w0 : World} {ms : List Nat} {k k' : Kont} (h : ∀ x e L, k.at x e L → k'.at x e L) {x : Exit} {a : Act} {w : World} (q : Q n D w0 ms k x a w) : Q n D w0 ms k' x a w :=
 let ⟨e, L, h1, h2, h3⟩ := q
 ⟨e, L, h1, h2, h _ _ _ h3⟩
section rules
variable {Γ : Ctx} {k : Kont} {e : Env} {L : Heap}
theorem c_seq {x y : Code} (h : C Γ x ⟨fun e L => C Γ y k e L, k.R, k.X⟩ e L) : C Γ (.seq x y) k e L := by
 intro a w ha hw
 refine wpIn_seq (wpIn_mono (h a w ha hw) ?_)
 rintro ex a' w' ⟨e', L', h1, h2, h3⟩
 cases ex <;> simp only [Kont.at, Exit.then] at h3 ⊢
 case normal => exact h3 a' w' h1 h2
 case exit id => exact ⟨e', L', h1, h2, h3⟩
 case ret => exact ⟨e', L', h1, h2, h3⟩
theorem c_skip (h : k.N e L) : C Γ .skip k e L := fun _ _ ha hw => wpIn_skip ⟨e, L, ha, hw, h⟩
theorem c_ret (h : k.R e L) : C Γ .ret k e L := fun _ _ ha hw => wpIn_ret ⟨e, L, ha, hw, h⟩
theorem c_exit {id : Nat} {K : Env → Heap → Prop} (hk : seek k.X id = some K) (h : K e L) : C Γ (.exit id) k e L :=
 fun _ _ ha hw => wpIn_exit ⟨e, L, ha, hw, by simp only [Kont.at, hk]; exact h⟩
theorem c_block {id : Nat} {c : Code} (h : C Γ c ⟨k.N, k.R, (id, k.N) :: k.X⟩ e L) : C Γ (.block id c) k e L := by
 intro a w ha hw
 refine wpIn_block (wpIn_mono (h a w ha hw) ?_)
 rintro ex a' w' ⟨e', L', h1, h2, h3⟩
 cases ex <;> simp only [Kont.at, Exit.inBlock] at h3 ⊢
 case normal => exact ⟨e', L', h1, h2, h3⟩
 case ret => exact ⟨e', L', h1, h2, h3⟩
 case exit id' =>
  simp only [seek] at h3
  by_cases hid : id' = id
  ·subst hid
   have hb : Nat.beq id' id' = true := Nat.beq_refl id'
   rw [hb] at h3
   rw [if_pos rfl]
   exact ⟨e', L', h1, h2, h3⟩
  ·have hb : Nat.beq id id' = false := by
    cases hx : Nat.beq id id'
    ·rfl
    ·exact absurd (Nat.eq_of_beq_eq_true hx).symm hid
   rw [hb] at h3
   rw [if_neg hid]
   exact ⟨e', L', h1, h2, h3⟩
theorem c_cond {c : Operand} {x y : Code} {t : Bool} (hc : ev e c = .bool t) (h1 : t = true → C Γ x k e L) (h2 : t = false → C Γ y k e L) : C Γ (.cond c x y) k e L := by
 intro a w ha hw
 refine wpIn_cond_split (t := t) (by rw [ha.eval]; exact hc) (fun ht => h1 ht a w ha hw) (fun ht => h2 ht a w ha hw)
theorem c_true {c : Operand} {x y : Code} (hc : ev e c = .bool true) (h1 : C Γ x k e L) : C Γ (.cond c x y) k e L := c_cond hc (fun _ => h1) (fun h => by cases h)
theorem c_false {c : Operand} {x y : Code} (hc : ev e c = .bool false) (h1 : C Γ y k e L) : C Γ (.cond c x y) k e L := c_cond hc (fun h => by cases h) (fun _ => h1)
theorem c_mono {c : Code} {k' : Kont} (h : C Γ c k e L) (hk : ∀ x e L, k.at x e L → k'.at x e L) : C Γ c k' e L :=
 fun a w ha hw => wpIn_mono (h a w ha hw) fun _ _ _ q => q.mono hk
theorem c_heap {c : Code} {L' : Heap} (hs : ∀ w, St Γ.w0 Γ.ms L w → St Γ.w0 Γ.ms L' w) (h : C Γ c k e L') : C Γ c k e L :=
 fun a w ha hw => h a w ha (hs w hw)
def mix (M : List Nat) (vs : List (Nat × Value)) (x e : Env) : Env := fun t =>
 match vs.find? (fun p => Nat.beq p.1 t) with
 | some p => p.2
 | none => bif M.any (Nat.beq t) then x t else e t
def Agree (M : List Nat) (e' e : Env) : Prop := ∀ t, M.any (Nat.beq t) = false → e' t = e t
theorem Agree.refl (M : List Nat) (e : Env) : Agree M e e := fun _ _ => rfl
theorem Agree.set {M : List Nat} {e' e : Env} {d : Nat} {v : Value} (hd : M.any (Nat.beq d) = true) (h : Agree M e' e) : Agree M (e'.set d v) e := fun t ht => by
 have hb : Nat.beq t d = false := by
  cases hx : Nat.beq t d
  ·rfl
  ·have := Nat.eq_of_beq_eq_true hx; subst this; rw [ht] at hd; cases hd
 simp only [Env.set, hb, cond_false]
 exact h t ht
theorem Agree.put {M : List Nat} {e' e : Env} {d : Nat} {v : Value} (hd : M.any (Nat.beq d) = true) (h : Agree M e' e) : Agree M (e'.put (some d) v) e := h.set hd
theorem Agree.mix {M : List Nat} {vs : List (Nat × Value)} {x e : Env} (hv : vs.all (fun p => M.any (Nat.beq p.1)) = true) : Agree M (mix M vs x e) e := fun t ht => by
 have hf : vs.find? (fun p => Nat.beq p.1 t) = none := by
  rw [List.find?_eq_none]
  intro p hp hb
  have h1 := (List.all_eq_true.1 hv) p hp
  have h2 := Nat.eq_of_beq_eq_true hb
  rw [h2] at h1; rw [ht] at h1; cases h1
 simp only [VV.mix, hf, ht, cond_false]
theorem Agree.trans {M : List Nat} {a b c : Env} (h : Agree M a b) (h' : Agree M b c) : Agree M a c := fun t ht => (h t ht).trans (h' t ht)
def Sits (e : Env) (vs : List (Nat × Value)) : Prop := ∀ p ∈ vs, e p.1 = p.2
theorem Sits.nil {e : Env} : Sits e [] := fun _ h => by cases h
theorem Sits.cons {e : Env} {t : Nat} {v : Value} {vs : List (Nat × Value)} (h : e t = v) (hs : Sits e vs) : Sits e ((t, v) :: vs) := fun p hp => by
 rcases List.mem_cons.1 hp with rfl | hp
 ·exact h
 ·exact hs p hp
theorem eq_mix {M : List Nat} {vs : List (Nat × Value)} {e' e : Env} (hs : Sits e' vs) (ha : Agree M e' e) : e' = mix M vs e' e := by
 funext t
 unfold mix
 split
 ·rename_i p hp
  have h1 := List.mem_of_find?_eq_some hp
  have h2 := List.find?_some hp
  have h3 := Nat.eq_of_beq_eq_true h2
  rw [← h3]; exact hs p h1
 ·cases hx : M.any (Nat.beq t)
  ·simp only [cond_false]; exact ha t hx
  ·simp only [cond_true]
theorem least {p : Nat → Prop} (h : ∃ m, p m) : ∃ m, p m ∧ ∀ k, k < m → ¬ p k := by
 obtain ⟨m, hm⟩ := h
 induction m using Nat.strongRecOn with
 | _ m ih =>
  by_cases hx : ∃ k, k < m ∧ p k
  ·obtain ⟨k, hk, hp⟩ := hx
   exact ih k hk hp
  ·exact ⟨m, hm, fun k hk hp => hx ⟨k, hk, hp⟩⟩
theorem wp_loop_ix {F : Fence} {n : Nat} {P : Program} {ι : Type} {c : Code} {R : Exit → Act → World → Prop} (I : ι → Act → World → Prop) (μ : ι → Nat) {a : Act} {w : World} (i0 : ι) (h0 : I i0 a w)
  (round : ∀ i a w, I i a w → c.wpIn F n P (Exit.then (fun a' w' => ∃ j, I j a' w' ∧ μ j < μ i) R) a w) : (Code.loop c).wpIn F n P R a w := by
 classical
 let p : Act → World → Nat → Prop := fun a w m => ∃ i, I i a w ∧ μ i = m
 let f : Act → World → Nat := fun a w => if h : ∃ m, p a w m then Classical.choose (least h) else 0
 have hf : ∀ a w, (∃ m, p a w m) → p a w (f a w) ∧ ∀ k, k < f a w → ¬ p a w k := fun a w h => by
  have := Classical.choose_spec (least h)
  simp only [f, dif_pos h]
  exact this
 refine wpIn_loop (fun a w => ∃ i, I i a w) f ⟨i0, h0⟩ ?_
 intro a w hI
 obtain ⟨i1, hi1⟩ := hI
 obtain ⟨⟨i, hi, hm⟩, _⟩ := hf a w ⟨_, i1, hi1, rfl⟩
 refine wpIn_mono (round i a w hi) ?_
 intro ex a' w' h
 cases ex <;> simp only [Exit.then] at h ⊢
 case normal =>
  obtain ⟨j, hj, hlt⟩ := h
  refine ⟨⟨j, hj⟩, ?_⟩
  have h2 := (hf a' w' ⟨_, j, hj, rfl⟩).2
  rcases Nat.lt_or_ge (f a' w') (f a w) with h3 | h3
  ·exact h3
  ·exact absurd ⟨j, hj, rfl⟩ (h2 (μ j) (by omega))
 all_goals exact h
theorem c_loop {σ : Type} {c : Code} (M : List Nat) (vs : σ → List (Nat × Value)) (H : σ → Heap) (J : σ → Prop) (μ : σ → Nat) (s0 : σ)
  (h0 : J s0) (hv : Sits e (vs s0)) (hh : ∀ w, St Γ.w0 Γ.ms L w → St Γ.w0 Γ.ms (H s0) w)
  (round : ∀ s x, J s → C Γ c ⟨fun e' L' => ∃ s', J s' ∧ μ s' < μ s ∧ Sits e' (vs s') ∧ Agree M e' e ∧ (∀ w, St Γ.w0 Γ.ms L' w → St Γ.w0 Γ.ms (H s') w), k.R, k.X⟩ (mix M (vs s) x e) (H s)) :
  C Γ (.loop c) k e L := by
 intro a w ha hw
 refine wp_loop_ix (ι := σ) (fun s a w => J s ∧ ∃ x, Rep Γ.n Γ.D (mix M (vs s) x e) a ∧ St Γ.w0 Γ.ms (H s) w) μ s0
  ⟨h0, e, by rw [← eq_mix hv (Agree.refl M e)]; exact ha, hh w hw⟩ ?_
 rintro s a w ⟨hJ, x, ha, hw⟩
 refine wpIn_mono (round s x hJ a w ha hw) ?_
 rintro ex a' w' ⟨e', L', h1, h2, h3⟩
 cases ex <;> simp only [Kont.at, Exit.then] at h3 ⊢
 case normal =>
  obtain ⟨s', hJ', hlt, hs, hA, hH⟩ := h3
  exact ⟨s', ⟨hJ', e', by rw [← eq_mix hs hA]; exact h1, hH w' h2⟩, hlt⟩
 case exit id => exact ⟨e', L', h1, h2, h3⟩
 case ret => exact ⟨e', L', h1, h2, h3⟩
theorem c_cut {σ : Type} {x y : Code} (M : List Nat) (vs : σ → List (Nat × Value)) (H : σ → Heap) (J : σ → Prop)
  (h1 : C Γ x ⟨fun e' L' => ∃ s, J s ∧ Sits e' (vs s) ∧ Agree M e' e ∧ (∀ w, St Γ.w0 Γ.ms L' w → St Γ.w0 Γ.ms (H s) w), k.R, k.X⟩ e L)
  (h2 : ∀ s x, J s → C Γ y k (mix M (vs s) x e) (H s)) : C Γ (.seq x y) k e L := by
 refine c_seq (fun a w ha hw => wpIn_mono (h1 a w ha hw) ?_)
 rintro ex a' w' ⟨e', L', g1, g2, g3⟩
 cases ex <;> simp only [Kont.at] at g3 ⊢
 case normal =>
  obtain ⟨s, hJ, hs, hA, hH⟩ := g3
  refine ⟨e', L', g1, g2, ?_⟩
  simp only [Kont.at]
  intro a2 w2 ha2 hw2
  have := eq_mix hs hA
  exact h2 s e' hJ a2 w2 (this ▸ ha2) (hH _ hw2)
 case exit id => exact ⟨e', L', g1, g2, g3⟩
 case ret => exact ⟨e', L', g1, g2, g3⟩
end rules
def pureOf {α : Type} (P : Program) : Sem α → Option α
 | .pure a => some a
 | .program k => pureOf P (k P)
 | _ => none
theorem pureOf_run {α : Type} {P : Program} {s : Sem α} {a : α} (h : pureOf P s = some a) (w : World) : s.run P w = .ok a w := by
 induction s with
 | pure b => simp only [pureOf] at h; cases h; rfl
 | program k ih => simp only [pureOf] at h; simp only [Sem.run]; exact ih P h
 | _ => simp [pureOf] at h
def vnf : Value → Option Value
 | .bool b => some (.bool b)
 | .int k n => some (.int k n)
 | .float k n => some (.float k n)
 | .complex k a b => some (.complex k a b)
 | .string s => some (.string s)
 | .pointer none => some (.pointer none)
 | .pointer (some ⟨b, o, s⟩) => some (.pointer (some ⟨b, o, s⟩))
 | .slice a n c => some (.slice a n c)
 | .map r => some (.map r)
 | .chan r => some (.chan r)
 | .func f a b => some (.func f a b)
 | .nilFunc => some .nilFunc
 | .iface t v => some (.iface t v)
 | .nilIface => some .nilIface
 | .agg cs => some (.agg cs)
 | .tuple vs => some (.tuple vs)
theorem vnf_eq {v u : Value} (h : vnf v = some u) : v = u := by
 cases v with
 | pointer a => cases a with
  | none => exact Option.some.inj h
  | some a => cases a; exact Option.some.inj h
 | _ => exact Option.some.inj h
def light (P : Program) (e : Env) (o : Oper) : Option Value :=
 match pureOf P (execOp (ev e) o) with
 | some (.value v) => vnf v
 | some .skip => some undef
 | _ => none
theorem light_run {P : Program} {e : Env} {o : Oper} {v : Value} (h : light P e o = some v) (w : World) :
  (execOp (ev e) o).run P w = .ok (.value v) w ∨ ((execOp (ev e) o).run P w = .ok .skip w ∧ v = undef) := by
 unfold light at h
 split at h
 ·rename_i u hu
  rw [← vnf_eq h]
  exact .inl (pureOf_run hu w)
 ·rename_i hu
  cases h
  exact .inr ⟨pureOf_run hu w, rfl⟩
 ·cases h
def opW (P : Program) (o : Oper) (e : Env) (w : World) (K : Value → World → Prop) : Prop :=
 match (execOp (ev e) o).run P w with
 | .ok (.value v) w' => K v w'
 | .ok .skip w' => K undef w'
 | .ok (.enter f args) w' => Calls P f args w' (fun ex w'' => ∃ v, ex = .returned v ∧ K v w'')
 | _ => False
theorem opW_run {P : Program} {o : Oper} {e : Env} {w w' : World} {v : Value} {K : Value → World → Prop} (h : (execOp (ev e) o).run P w = .ok (.value v) w') (k : K v w') : opW P o e w K := by
 simp only [opW, h]; exact k
theorem opW_skip {P : Program} {o : Oper} {e : Env} {w w' : World} {K : Value → World → Prop} (h : (execOp (ev e) o).run P w = .ok .skip w') (k : K undef w') : opW P o e w K := by
 simp only [opW, h]; exact k
theorem opW_enter {P : Program} {o : Oper} {e : Env} {w w' : World} {f : FuncId} {args : Array Value} {K : Value → World → Prop} (h : (execOp (ev e) o).run P w = .ok (.enter f args) w')
  (k : Calls P f args w' (fun ex w'' => ∃ v, ex = .returned v ∧ K v w'')) : opW P o e w K := by
 simp only [opW, h]; exact k
theorem opW_light {P : Program} {o : Oper} {e : Env} {w : World} {v : Value} {K : Value → World → Prop} (h : light P e o = some v) (k : K v w) : opW P o e w K := by
 rcases light_run h w with h1 | ⟨h1, h2⟩
 ·exact opW_run h1 k
 ·subst h2; exact opW_skip h1 k
theorem opW_mono {P : Program} {o : Oper} {e : Env} {w : World} {K K' : Value → World → Prop} (h : opW P o e w K) (hk : ∀ v w', K v w' → K' v w') : opW P o e w K' := by
 unfold opW at *
 split at h
 ·exact hk _ _ h
 ·exact hk _ _ h
 ·exact h.mono fun ex w'' ⟨v, h1, h2⟩ => ⟨v, h1, hk _ _ h2⟩
 ·exact h.elim
theorem opW_noDefer {P : Program} {o : Oper} {e : Env} {w : World} {K : Value → World → Prop} (h : opW P o e w K) (c : Call) : o.op ≠ .defer c := by
 intro ho
 have h1 : execOp (ev e) o = (do pure (.defer (← resolve (ev e) c o.type))) := by simp only [execOp, ho]
 unfold opW at h
 rw [h1, Sem.run_bind] at h
 cases hr : (resolve (ev e) c o.type).run P w with
 | ok d w' => rw [hr] at h; exact h.elim
 | halt x w' => rw [hr] at h; exact h.elim
theorem calls_in {r : Option Nat} {n : Nat} {P : Program} {f : FuncId} {args : Array Value} {w : World} {R : Ending → World → Prop} (h : Calls P f args w R) : CallsIn (Fr r) n P f args w R :=
 (callsIn_wide (n := n)).2 h
theorem wpIn_of_opW {P : Program} {r : Option Nat} {n : Nat} {D : List Deferred} {o : Oper} {e : Env} {a : Act} {w : World} {K : Value → World → Prop} {K' : Act → World → Prop} {R : Exit → Act → World → Prop}
  (ha : Rep n D e a) (h : opW P o e w K) (hk : ∀ v w', K v w' → K' (a.put o.dst v) w') : o.wpIn (Fr r) 0 P a w K' R := by
 refine ⟨fun _ _ => trivial, ?_⟩
 rw [Oper.semAt_eq _ _ _ (fun c => opW_noDefer h c), ha.eval]
 unfold opW at h
 split at h
 ·rename_i v w' hr; rw [hr]; exact hk _ _ h
 ·rename_i w' hr; rw [hr]; exact hk _ _ h
 ·rename_i f args w' hr
  rw [hr]
  refine ⟨fun h => (by cases h), calls_in (h.mono ?_)⟩
  rintro ex w'' ⟨v, rfl, hv⟩
  exact hk _ _ hv
 ·exact h.elim
theorem Oper.wp_in {P : Program} {r : Option Nat} {o : Oper} {a : Act} {w : World} {K : Act → World → Prop} {R : Exit → Act → World → Prop} (ho : ∀ c, o.op ≠ .defer c)
    (h : o.wp P a w K R) : o.wpIn (Fr r) 0 P a w K R := by
  refine ⟨fun _ _ => trivial, ?_⟩
  rw [Oper.semAt_eq _ _ _ ho]
  unfold Oper.wp at h
  generalize (execOp a.eval o).run P w = q at h ⊢
  cases q with
  | ok x w' =>
    cases x <;> simp only [Oper.upon] at h <;>
      first
        | exact h
        | exact ⟨fun h => (by cases h), calls_in h⟩
        | exact h.elim
        | (refine ⟨fun h => (by cases h), fun c cs _ => ?_⟩
           obtain ⟨v, w2, h1, h2⟩ := h c cs
           exact ⟨v, w2, h1, stepsIn_wide.2 h2⟩)
  | halt x w' => cases x <;> simp only [Oper.upon] at h <;> first | exact h | exact h.elim
def noDefer (o : Oper) : Bool := match o.op with
 | .defer _ => false
 | _ => true
theorem noDefer_spec {o : Oper} (h : noDefer o = true) (c : Call) : o.op ≠ .defer c := by
 intro ho; simp only [noDefer, ho] at h; cases h
theorem wpOp_in {P : Program} {r : Option Nat} {ops : Array Oper} {i : Nat} {a : Act} {w : World} {K : Act → World → Prop} {R : Exit → Act → World → Prop}
  (hd : ops.all noDefer = true) (hL : ¬ LetsOut R) (h : wpOp P ops R i K a w) : wpOpIn (Fr r) 0 P ops R i K a w := by
 unfold wpOp at h
 unfold wpOpIn
 cases ho : ops[i]? with
 | none => rw [ho] at h; exact h
 | some o =>
  rw [ho] at h
  simp only at h ⊢
  have h1 : noDefer o = true := Array.all_eq_true'.1 hd o (Array.mem_of_getElem? ho)
  split
  ·rename_i hw
   rw [if_pos hw] at h
   rcases h with h | h
   ·exact Oper.wp_in (noDefer_spec h1) h
   ·exact absurd h.2 hL
  ·rename_i hw
   rw [if_neg hw] at h
   exact ⟨fun _ _ => trivial, h⟩
theorem wpAny_in {P : Program} {r : Option Nat} {md : Region.Mode} {ops : Array Oper} {R : Exit → Act → World → Prop} (hd : ops.all noDefer = true) (hL : ¬ LetsOut R) :
  ∀ (fuel : Nat) (listed : Array Bool) (a : Act) (w : World), wpAny P md ops R fuel listed a w → wpAnyIn (Fr r) 0 P md ops R fuel listed a w
 | 0, _, _, _, h => h
 | fuel + 1, _, _, _, h => ⟨h.1, fun i hi => wpOpIn_mono (fun a' w' h' => wpAny_in hd hL fuel _ a' w' h') (wpOp_in hd hL (h.2 i hi))⟩
theorem Q.noOut {n : Nat} {D : List Deferred} {w0 : World} {ms : List Nat} {k : Kont} : ¬ LetsOut (Q n D w0 ms k) := by
 rintro ⟨_, _, _, _, _, _, h⟩
 exact h
theorem wp_of_opW {P : Program} {n : Nat} {D : List Deferred} {o : Oper} {e : Env} {a : Act} {w : World} {K : Value → World → Prop} {K' : Act → World → Prop} {R : Exit → Act → World → Prop}
  (ha : Rep n D e a) (h : opW P o e w K) (hk : ∀ v w', K v w' → K' (a.put o.dst v) w') : o.wp P a w K' R := by
 unfold Oper.wp
 rw [ha.eval]
 unfold opW at h
 split at h
 ·rename_i v w' hr; rw [hr]; exact hk _ _ h
 ·rename_i w' hr; rw [hr]; exact hk _ _ h
 ·rename_i f args w' hr
  rw [hr]
  refine h.mono ?_
  rintro ex w'' ⟨v, rfl, hv⟩
  exact hk _ _ hv
 ·exact h.elim
def gdB (ops : List Oper) (e : Env) (o : Oper) : Bool :=
 match o.guard with
 | none => true
 | some (j, want) => match (ops[j]?).bind (·.dst) with
  | some d => match e d with
   | .bool b => b == want
   | _ => false
  | none => false
theorem gdB_eq {n : Nat} {D : List Deferred} {ops : List Oper} {e : Env} {a : Act} {o : Oper} (ha : Rep n D e a) : Region.wanted o (yielded ops.toArray a.tmps) = gdB ops e o := by
 unfold Region.wanted gdB yielded
 cases hg : o.guard with
 | none => rfl
 | some p =>
  obtain ⟨j, want⟩ := p
  simp only [List.getElem?_toArray]
  cases hd : (ops[j]?).bind (·.dst) with
  | none => simp
  | some d =>
   simp only [Option.bind_some]
   have hl : e d = a.tmps.getD d undef := by rw [ha.look]
   rw [hl]
   rw [Array.getD_eq_getD_getElem?]
   cases hx : a.tmps[d]? with
   | none => simp [undef]
   | some v =>
    simp only [Option.getD_some]
    cases v <;> simp
def L1 (Γ : Ctx) (ops l : List Oper) (k : Kont) (e : Env) (H : Heap) : Prop :=
 ∀ a w, Rep Γ.n Γ.D e a → St Γ.w0 Γ.ms H w → wpListIn (Fr Γ.r) 0 Γ.P ops.toArray (Q Γ.n Γ.D Γ.w0 Γ.ms k) l a w
section rules
variable {Γ : Ctx} {k : Kont} {e : Env} {H : Heap} {ops rest : List Oper} {o : Oper}
theorem c_region {id : Nat} {l : List Oper} (h : L1 Γ l l k e H) : C Γ (.region id l.toArray false) k e H :=
 fun a w ha hw => wpIn_region_lit (h a w ha hw)
theorem l_nil (h : k.N e H) : L1 Γ ops [] k e H := fun _ _ ha hw => wpListIn_nil ⟨e, H, ha, hw, h⟩
theorem l_op {K : Value → Heap → Prop} (hg : gdB ops e o = true) (hd : dstOk Γ.n o.dst = true)
  (h : ∀ w, St Γ.w0 Γ.ms H w → opW Γ.P o e w (fun v w' => ∃ H', St Γ.w0 Γ.ms H' w' ∧ K v H'))
  (hk : ∀ v H', K v H' → L1 Γ ops rest k (e.put o.dst v) H') : L1 Γ ops (o :: rest) k e H := by
 intro a w ha hw
 unfold wpListIn
 rw [gdB_eq ha, if_pos hg]
 exact (wpIn_of_opW ha (h w hw) fun v w' ⟨H', h1, h2⟩ => hk v H' h2 _ _ (ha.put hd v) h1)
theorem l_light {v : Value} (hl : light Γ.P e o = some v) (hg : gdB ops e o = true) (hd : dstOk Γ.n o.dst = true)
  (h : L1 Γ ops rest k (e.put o.dst v) H) : L1 Γ ops (o :: rest) k e H :=
 l_op (K := fun u H' => u = v ∧ H' = H) hg hd (fun _ hw => opW_light hl ⟨H, hw, rfl, rfl⟩) (by rintro _ _ ⟨rfl, rfl⟩; exact h)
theorem l_bool {b : Bool} (hl : light Γ.P e o = some (.bool b)) (hg : gdB ops e o = true) (hd : dstOk Γ.n o.dst = true)
  (ht : b = true → L1 Γ ops rest k (e.put o.dst (.bool true)) H) (hf : b = false → L1 Γ ops rest k (e.put o.dst (.bool false)) H) : L1 Γ ops (o :: rest) k e H := by
 cases b
 ·exact l_light hl hg hd (hf rfl)
 ·exact l_light hl hg hd (ht rfl)
theorem l_pass (hg : gdB ops e o = false) (hd : dstOk Γ.n o.dst = true)
  (h : L1 Γ ops rest k (e.put o.dst undef) H) : L1 Γ ops (o :: rest) k e H := by
 intro a w ha hw
 unfold wpListIn
 rw [gdB_eq ha, if_neg (by rw [hg]; simp)]
 exact ⟨fun _ _ => trivial, h _ _ (ha.put hd _) hw⟩
end rules
def evs (e : Env) : List Operand → Option (List Value)
 | [] => some []
 | x :: r => match vnf (ev e x), evs e r with
  | some v, some vs => some (v :: vs)
  | _, _ => none
theorem evs_eq {e : Env} : ∀ {l : List Operand} {vs : List Value}, evs e l = some vs → l.map (ev e) = vs
 | [], _, h => by cases h; rfl
 | x :: r, vs, h => by
  simp only [evs] at h
  split at h
  ·rename_i v us h1 h2
   cases h
   simp only [List.map_cons, vnf_eq h1, evs_eq h2]
  ·cases h
def callable (P : Program) (f : Nat) : Bool :=
 match P.funcs[f]? with
 | some fn => !(fn.name == "runtime.NumGoroutine") && !fn.body.isNone
 | none => false
theorem run_call {P : Program} {e : Env} {f : Nat} {l : List Operand} {ts : Array TypeId} {d : Option Nat} {t : TypeId} {pos : String} {af : Array Edge} {g : Option (Nat × Bool)}
  (hc : callable P f = true) (w : World) :
  (execOp (ev e) ⟨d, .call ⟨.value (.func f), l.toArray, ts⟩, t, pos, af, g⟩).run P w = .ok (.enter f (l.map (ev e)).toArray) w := by
 unfold callable at hc
 split at hc
 ·rename_i fn hf
  simp only [Bool.and_eq_true, Bool.not_eq_true'] at hc
  obtain ⟨h1, h2⟩ := hc
  have hs : (program : Sem Program) = .program .pure := rfl
  have h3 : ¬ fn.name = "runtime.NumGoroutine" := by simpa using h1
  have h4 : ¬ fn.body = none := by
   intro hx; rw [hx] at h2; cases h2
  simp [execOp, resolve, Deferred.ofValue, ev, invoke, callFunc, bind, Sem.bind, Sem.run, hf, h3, h4, pure, hs]
 ·cases hc
def Does (P : Program) (f : Nat) (args : List Value) (w : World) (ms : List Nat) (R : Value → Heap → Prop) : Prop :=
 Calls P f args.toArray w (fun ex w' => ∃ v H, ex = .returned v ∧ St w ms H w' ∧ R v H)
theorem Does.mono {P : Program} {f : Nat} {args : List Value} {w : World} {ms : List Nat} {R R' : Value → Heap → Prop} (h : Does P f args w ms R) (hr : ∀ v H, R v H → R' v H) : Does P f args w ms R' :=
 Calls.mono h fun _ _ ⟨v, H, h1, h2, h3⟩ => ⟨v, H, h1, h2, hr _ _ h3⟩
section rules
variable {Γ : Ctx} {k : Kont} {e : Env} {ops rest : List Oper}
 {d : Option Nat} {t : TypeId} {pos : String} {af : Array Edge} {g : Option (Nat × Bool)} {f : Nat} {l : List Operand} {ts : Array TypeId}
theorem opW_call {F G : Heap} {vs : List Value} {w : World} (ms2 : List Nat) (hc : callable Γ.P f = true) (hv : evs e l = some vs) {R : Value → Heap → Prop}
  (hw : St Γ.w0 Γ.ms (F ++ G) w) (hms : ∀ b ∈ ms2, ∃ o, (b, o) ∈ F) (hf : Does Γ.P f vs w ms2 R) {K : Value → World → Prop}
  (hk : ∀ v H' w', R v H' → St w ms2 H' w' → St Γ.w0 Γ.ms (H' ++ G) w' → K v w') :
  opW Γ.P ⟨d, .call ⟨.value (.func f), l.toArray, ts⟩, t, pos, af, g⟩ e w K := by
 refine opW_enter (run_call hc w) ?_
 rw [evs_eq hv]
 refine Calls.mono hf ?_
 rintro ex w' ⟨v, H', rfl, h1, h2⟩
 exact ⟨v, rfl, hk v H' w' h2 h1 (hw.call hms h1)⟩
end rules
def init (args : List Value) : Env := fun t => args.getD t undef
def resOf (rs : List ResultVar) (e : Env) : Sem Value := do
 let vs ← rs.toArray.mapM fun
  | .tmp t => pure (e t)
  | .cell a t => do loadVar t (← asAddr (e a))
 pure (if h : vs.size = 1 then vs[0] else .tuple vs)
def Rets (P : Program) (rs : List ResultVar) (e : Env) (w : World) (v : Value) : Prop := (resOf rs e).run P w = .ok v w
theorem rets_one {P : Program} {t : Nat} {e : Env} {w : World} {v : Value} (h : e t = v) : Rets P [.tmp t] e w v := by
 simp [Rets, resOf, h, go_sem]
theorem rets_none {P : Program} {e : Env} {w : World} : Rets P [] e w (.tuple #[]) := by
 simp [Rets, resOf, go_sem]
theorem rets_two {P : Program} {t u : Nat} {e : Env} {w : World} {v1 v2 : Value} (h1 : e t = v1) (h2 : e u = v2) : Rets P [.tmp t, .tmp u] e w (.tuple #[v1, v2]) := by
 simp [Rets, resOf, h1, h2, go_sem]
def Ends (Γ : Ctx) (rs : List ResultVar) (R : Value → Heap → Prop) (e : Env) (H : Heap) : Prop :=
 ∀ w, St Γ.w0 Γ.ms H w → ∃ v H', Rets Γ.P rs e w v ∧ St Γ.w0 Γ.ms H' w ∧ R v H'
theorem ends_of {Γ : Ctx} {rs : List ResultVar} {R : Value → Heap → Prop} {e : Env} {H H' : Heap} {v : Value} (hr : ∀ w, St Γ.w0 Γ.ms H w → Rets Γ.P rs e w v)
  (hh : ∀ w, St Γ.w0 Γ.ms H w → St Γ.w0 Γ.ms H' w) (h : R v H') : Ends Γ rs R e H := fun w hw => ⟨v, H', hr w hw, hh w hw, h⟩
def ends (Γ : Ctx) (rs : List ResultVar) (R : Value → Heap → Prop) : Kont := ⟨Ends Γ rs R, Ends Γ rs R, []⟩
theorem results_eq {fn : Func} {n : Nat} {D : List Deferred} {e : Env} {a : Act} (ha : Rep n D e a) : results fn a.tmps = resOf fn.results.toList e := by
 unfold results resOf
 simp only [Array.toArray_toList]
 have : ∀ t, a.tmps.getD t undef = e t := fun t => by rw [ha.look]
 simp only [this]
 rfl
theorem rep_init {n : Nat} {args : List Value} (hn : args.length ≤ n) : Rep n [] (init args) { tmps := args.toArray ++ Array.replicate (n - args.toArray.size) undef, defers := [] } := by
 refine ⟨rfl, by simp; omega, ?_⟩
 funext t
 simp only [init, Array.getD_eq_getD_getElem?, List.getD_eq_getElem?_getD]
 by_cases h : t < args.length
 ·rw [Array.getElem?_append_left (by simpa using h)]
  simp
 ·rw [Array.getElem?_append_right (by simpa using h), Array.getElem?_replicate, List.getElem?_eq_none (by omega)]
  split <;> rfl
theorem does_of {P : Program} {f : Nat} {fn : Func} {c : Code} {args : List Value} {w : World} {ms : List Nat} {R : Value → Heap → Prop} {n : Nat} {H : Heap}
  (hf : P.funcs[f]? = some fn) (hb : fn.body = some c) (hn : fn.ntmps = n) (hl : Nat.ble args.length n = true) (hH : St w ms H w)
  (h : C ⟨P, n, w, ms, none, []⟩ c (ends ⟨P, n, w, ms, none, []⟩ fn.results.toList R) (init args) H) : Does P f args w ms R := by
 subst hn
 have hl' : args.length ≤ fn.ntmps := Nat.le_of_ble_eq_true hl
 refine (callsIn_wide (n := 0)).1 (callsIn_of_wp hf hb trivial (wpIn_mono (h _ w (rep_init hl') hH) ?_))
 rintro ex a' w' ⟨e', L', h1, h2, h3⟩
 have fin : ∀ v H', Rets P fn.results.toList e' w' v → St w ms H' w' → R v H' → a'.defers = [] ∧ ∃ v, (results fn a'.tmps).run P w' = .ok v w' ∧ ∃ v' H, Ending.returned v = .returned v' ∧ St w ms H w' ∧ R v' H :=
  fun v H' g1 g2 g3 => ⟨h1.defers, v, by rw [results_eq h1]; exact g1, v, H', rfl, g2, g3⟩
 cases ex <;> simp only [Kont.at, ends, Ends, seek] at h3
 case normal => obtain ⟨v, H', g1, g2, g3⟩ := h3 w' h2; exact fin v H' g1 g2 g3
 case ret => obtain ⟨v, H', g1, g2, g3⟩ := h3 w' h2; exact fin v H' g1 g2 g3
section
variable {P : Program} {ops : Array Oper} {R : Exit → Act → World → Prop} {md : Region.Mode} {S : World → Prop} {need : Nat → Bool}
def anyN (P : Program) (md : Region.Mode) (ops : Array Oper) (R : Exit → Act → World → Prop) (S : World → Prop) (need : Nat → Bool) : Nat → Array Bool → Act → World → Prop
 | 0, listed, a, w => Region.ready md ops listed = [] ∧ R .normal a w
 | fuel + 1, listed, a, w =>
  (Region.ready md ops listed = [] → R .normal a w) ∧
  ∀ i ∈ Region.ready md ops listed, wpOp P ops R i (fun a' w' => (need i = true → S w → S w') ∧ anyN P md ops R S need fuel (listed.setIfInBounds i true) a' w') a w
theorem any_of_N : ∀ (fuel : Nat) (listed : Array Bool) (a : Act) (w : World), anyN P md ops R S need fuel listed a w → wpAny P md ops R fuel listed a w
 | 0, _, _, _, h => h
 | fuel + 1, _, _, _, h => ⟨h.1, fun i hi => wpOp_mono (fun a' w' h' => any_of_N fuel _ a' w' h'.2) (h.2 i hi)⟩
def Closed (md : Region.Mode) (ops : Array Oper) (listed : Array Bool) : Prop :=
 ∀ j oj, ops[j]? = some oj → listed.getD j false = true → ∀ e ∈ oj.after, Region.binds md e = true → listed.getD e.on false = true
theorem Closed.add {listed : Array Bool} (h : Closed md ops listed) {i : Nat} (hi : i ∈ Region.ready md ops listed) : Closed md ops (listed.setIfInBounds i true) := by
 intro j oj hj hl e he hb
 by_cases hji : j = i
 ·subst hji
  obtain ⟨_, oj', hoj', hall⟩ := mem_ready.1 hi
  rw [hj] at hoj'
  cases hoj'
  exact getD_set_true (hall e he hb)
 ·rw [getD_set_ne false (Ne.symm hji)] at hl
  exact getD_set_true (h j oj hj hl e he hb)
theorem Closed.start (n : Nat) : Closed md ops (Array.replicate n false) := by
 intro j oj _ hl
 exfalso
 rw [Array.getD_eq_getD_getElem?, Array.getElem?_replicate] at hl
 split at hl <;> simp at hl
def waits (md : Region.Mode) (ops : Array Oper) (i : Nat) : Nat → Nat → Bool
 | 0, _ => false
 | fuel + 1, j => match ops[j]? with
  | some oj => oj.after.any fun e => Region.binds md e && (e.on == i || waits md ops i fuel e.on)
  | none => false
theorem waits_listed {listed : Array Bool} {i : Nat} (hc : Closed md ops listed) : ∀ (fuel j : Nat), waits md ops i fuel j = true → (∀ oj, ops[j]? = some oj → ∀ e ∈ oj.after, Region.binds md e = true → listed.getD e.on false = true) → listed.getD i false = true
 | 0, _, h, _ => by simp [waits] at h
 | fuel + 1, j, h, hd => by
  simp only [waits] at h
  split at h
  ·rename_i oj hoj
   obtain ⟨e, he, hb⟩ := Array.any_eq_true'.1 h
   simp only [Bool.and_eq_true, Bool.or_eq_true, beq_iff_eq] at hb
   have h1 := hd oj hoj e he hb.1
   rcases hb.2 with h2 | h2
   ·rw [← h2]; exact h1
   ·exact waits_listed hc fuel e.on h2 (fun o' ho' => hc e.on o' ho' h1)
  ·cases h
theorem anyN_first (ld : Bool) {i : Nat} {oi : Oper} {v : Value} (hi : ops[i]? = some oi) (hsel : ∀ (j : Nat) (o : Oper) cs b, ops[j]? = some o → o.op ≠ .select cs b)
  (hR : ∀ c a w, R (.panic c) (a.put oi.dst v) w → R (.panic c) a w) :
  ∀ (fuel : Nat) (listed : Array Bool) (a : Act) (w : World),
   (∀ j oj, ops[j]? = some oj → j ≠ i → listed.getD j true = false → (∀ e ∈ oj.after, Region.binds md e = true → e.on ≠ i) → oi.apart ops oj = true) →
   (ld = true → ∀ j oj, ops[j]? = some oj → j ≠ i → listed.getD j true = false → waits md ops i ops.size j = false → need j = true) → Closed md ops listed →
   i ∈ Region.ready md ops listed → YieldsIf P ops (fun w => ld = true → S w) oi v a → (ld = true → S w) →
   anyN P md ops R S need fuel (listed.setIfInBounds i true) (a.put oi.dst v) w → anyN P md ops R S need (fuel + 1) listed a w := by
 intro fuel
 induction fuel with
 | zero =>
  intro listed a w _ _ _ hr hy hS H
  refine ⟨fun h => (by rw [h] at hr; cases hr), fun j hj => ?_⟩
  by_cases hji : j = i
  ·subst hji; exact hy.wpOp hi hS ⟨fun _ h => h, H⟩
  ·have := ready_mono hj hji
   rw [H.1] at this
   cases this
 | succ fuel ih =>
  intro listed a w hfree hkeep hcl hr hy hS H
  refine ⟨fun h => (by rw [h] at hr; cases hr), fun j hj => ?_⟩
  by_cases hji : j = i
  ·subst hji; exact hy.wpOp hi hS ⟨fun _ h => h, H⟩
  ·have h1 := H.2 j (ready_mono hj hji)
   obtain ⟨hjun, oj, hoj, hall⟩ := mem_ready.1 hj
   have hnot : ∀ e ∈ oj.after, Region.binds md e = true → e.on ≠ i := fun e he hb heq => by
    have h1 := hall e he hb
    have h0 := (mem_ready.1 hr).1
    rw [heq] at h1
    rcases Nat.lt_or_ge i listed.size with h' | h'
    ·simp [h'] at h0 h1; rw [h0] at h1; cases h1
    ·simp [Array.getElem?_eq_none h'] at h1
   have hap := hfree j oj hoj hji hjun hnot
   have hneed : ld = true → need j = true := fun hld => by
    refine hkeep hld j oj hoj hji hjun ?_
    cases hx : waits md ops i ops.size j
    ·rfl
    ·exfalso
     have h1 := waits_listed hcl ops.size j hx (fun o' ho' => by rw [hoj] at ho'; cases ho'; exact hall)
     have h0 := (mem_ready.1 hr).1
     rcases Nat.lt_or_ge i listed.size with h' | h'
     ·simp [h'] at h0 h1; rw [h0] at h1; cases h1
     ·simp [Array.getElem?_eq_none h'] at h1
   have h2 := wpOp_putIf hoj hap (fun cs b => hsel i oi cs b hi) (fun cs b => hsel j oj cs b hoj) hR hy h1
   have hfree' : ∀ k ok, ops[k]? = some ok → k ≠ i → (listed.setIfInBounds j true).getD k true = false →
     (∀ e ∈ ok.after, Region.binds md e = true → e.on ≠ i) → oi.apart ops ok = true := fun k ok hk hki hun hno => by
    refine hfree k ok hk hki ?_ hno
    by_cases hjk : j = k
    ·subst hjk; exact hjun
    ·rw [getD_set_ne true hjk] at hun; exact hun
   have hkeep' : ld = true → ∀ k ok, ops[k]? = some ok → k ≠ i → (listed.setIfInBounds j true).getD k true = false → waits md ops i ops.size k = false → need k = true := fun hld k ok hk hki hun hno => by
    refine hkeep hld k ok hk hki ?_ hno
    by_cases hjk : j = k
    ·subst hjk; exact hjun
    ·rw [getD_set_ne true hjk] at hun; exact hun
   refine wpOp_mono (fun a' w' h3 => ⟨h3.2.1, ih (listed.setIfInBounds j true) a' w' hfree' hkeep' (hcl.add hj) (ready_mono hr (Ne.symm hji)) h3.1 (fun hld => h3.2.1 (hneed hld) (hS hld)) ?_⟩) h2
   rw [Array.setIfInBounds_comm _ _ hji]
   exact h3.2.2
def looks (o : Oper) : Bool := match o.op with
 | .load _ _ => true
 | _ => false
def looksAt (ops : Array Oper) (i : Nat) : Bool := match ops[i]? with
 | some o => looks o
 | none => true
inductive Plan where
 | done
 | step (l : Bool) (i : Nat) (r : Plan)
 | fork (i : Nat) (r o : Plan)
 | stop
def Plan.heads : Plan → List Nat
 | .fork i _ o => i :: o.heads
 | _ => []
def runPlan (P : Program) (ops : Array Oper) (R : Exit → Act → World → Prop) (S : World → Prop) (need : Nat → Bool) : Plan → Act → World → Prop
 | .done, a, w => R .normal a w
 | .step true i r, a, w => ∃ o v, ops[i]? = some o ∧ YieldsIf P ops (fun w => looks o = true → S w) o v a ∧ runPlan P ops R S need r (a.put o.dst v) w
 | .step false i r, a, w => wpOp P ops R i (fun a' w' => (need i = true → S w → S w') ∧ runPlan P ops R S need r a' w') a w
 | .fork i r o, a, w => wpOp P ops R i (fun a' w' => (need i = true → S w → S w') ∧ runPlan P ops R S need r a' w') a w ∧ runPlan P ops R S need o a w
 | .stop, _, _ => True
def keepB (md : Region.Mode) (ops : Array Oper) (need : Nat → Bool) (listed : Array Bool) (i : Nat) : Bool :=
 (List.range ops.size).all fun j => j == i || listed.getD j true || waits md ops i ops.size j || need j
def planB (md : Region.Mode) (ops : Array Oper) (need : Nat → Bool) : Plan → Nat → Bool → Array Bool → Bool → Bool
 | .done, _, top, listed, _ => top && (Region.ready md ops listed).isEmpty
 | .step true i r, fuel + 1, top, listed, s => top && (!(looksAt ops i) || (s && keepB md ops need listed i)) && (Region.ready md ops listed).contains i && Region.free md ops listed i && planB md ops need r fuel true (listed.setIfInBounds i true) s
 | .step false i r, fuel + 1, top, listed, s => top && (Region.ready md ops listed == [i]) && planB md ops need r fuel true (listed.setIfInBounds i true) (s && need i)
 | .fork i r o, fuel + 1, top, listed, s => (!top || Region.ready md ops listed == i :: o.heads) && (Region.ready md ops listed).contains i && planB md ops need r fuel true (listed.setIfInBounds i true) (s && need i) && planB md ops need o (fuel + 1) false listed s
 | .stop, _, top, _, _ => !top
 | .step _ _ _, 0, _, _, _ => false
 | .fork _ _ _, 0, _, _, _ => false
theorem keepB_spec {listed : Array Bool} {i : Nat} (h : keepB md ops need listed i = true) (j : Nat) (oj : Oper) (hj : ops[j]? = some oj) (hne : j ≠ i) (hun : listed.getD j true = false)
  (hno : waits md ops i ops.size j = false) : need j = true := by
 have hlt : j < ops.size := by
  rcases Nat.lt_or_ge j ops.size with h1 | h1
  ·exact h1
  ·rw [Array.getElem?_eq_none h1] at hj; cases hj
 have := List.all_eq_true.1 h j (List.mem_range.2 hlt)
 simpa only [hun, hno, Bool.or_eq_true, beq_iff_eq, hne, Bool.or_false, Bool.false_eq_true, false_or] using this
theorem any_of_plan (hs : Region.noSelect ops = true) (hR : ∀ c a w, ¬ R (.panic c) a w) : ∀ (pl : Plan) (fuel : Nat) (listed : Array Bool) (s : Bool) (a : Act) (w : World), Closed md ops listed → (s = true → S w) → runPlan P ops R S need pl a w →
  (planB md ops need pl fuel true listed s = true → anyN P md ops R S need fuel listed a w) ∧
  (planB md ops need pl (fuel + 1) false listed s = true → ∀ j ∈ pl.heads, wpOp P ops R j (fun a' w' => (need j = true → S w → S w') ∧ anyN P md ops R S need fuel (listed.setIfInBounds j true) a' w') a w) := by
 intro pl
 induction pl with
 | done =>
  intro fuel listed s a w _ _ h
  refine ⟨fun hB => ?_, fun _ j hj => by cases hj⟩
  simp only [planB, Bool.true_and, List.isEmpty_iff] at hB
  cases fuel with
  | zero => exact ⟨hB, h⟩
  | succ fuel => exact ⟨fun _ => h, fun j hj => by rw [hB] at hj; cases hj⟩
 | stop =>
  intro fuel listed s a w _ _ _
  exact ⟨fun hB => by simp [planB] at hB, fun _ j hj => by cases hj⟩
 | step l i r ih =>
  intro fuel listed s a w hcl hS h
  refine ⟨fun hB => ?_, fun _ j hj => by cases hj⟩
  cases fuel with
  | zero => simp [planB] at hB
  | succ fuel =>
   cases l with
   | true =>
    simp only [planB, Bool.true_and, Bool.and_eq_true] at hB
    obtain ⟨⟨⟨h1, h2⟩, h3⟩, h5⟩ := hB
    obtain ⟨o, v, ho, hy, hr⟩ := h
    have h4 : looks o = true → s = true ∧ keepB md ops need listed i = true := fun hx => by
     simp only [looksAt, ho, hx, Bool.not_true, Bool.false_or, Bool.and_eq_true] at h1
     exact h1
    refine anyN_first (looks o) ho (Region.noSelect_spec hs) (fun c a w hc => absurd hc (hR c _ w)) fuel listed a w (fun j oj hj hne hun hno => Region.free_spec ho h3 j oj hj hne hun hno)
     (fun hx j oj hj hne hun hno => keepB_spec (h4 hx).2 j oj hj hne hun hno) hcl (by simpa using h2) hy (fun hx => hS (h4 hx).1) ?_
    exact (ih fuel _ s _ w (hcl.add (by simpa using h2)) hS hr).1 h5
   | false =>
    simp only [planB, Bool.true_and, Bool.and_eq_true, beq_iff_eq] at hB
    obtain ⟨h1, h2⟩ := hB
    refine ⟨fun h0 => (by rw [h1] at h0; cases h0), fun j hj => ?_⟩
    rw [h1] at hj
    have : j = i := by simpa using hj
    subst this
    refine wpOp_mono (fun a' w' h3 => ⟨h3.1, (ih fuel _ (s && need j) a' w' (hcl.add (by rw [h1]; simp)) ?_ h3.2).1 h2⟩) h
    intro hx
    simp only [Bool.and_eq_true] at hx
    exact h3.1 hx.2 (hS hx.1)
 | fork i r o ih1 ih2 =>
  intro fuel listed s a w hcl hS h
  have key : ∀ fuel top, planB md ops need (.fork i r o) (fuel + 1) top listed s = true → ∀ j ∈ (Plan.fork i r o).heads, wpOp P ops R j (fun a' w' => (need j = true → S w → S w') ∧ anyN P md ops R S need fuel (listed.setIfInBounds j true) a' w') a w := by
   intro fuel top hB j hj
   simp only [planB, Bool.and_eq_true] at hB
   obtain ⟨⟨⟨_, h2⟩, h3⟩, h4⟩ := hB
   simp only [Plan.heads, List.mem_cons] at hj
   rcases hj with rfl | hj
   ·refine wpOp_mono (fun a' w' h5 => ⟨h5.1, (ih1 fuel _ (s && need j) a' w' (hcl.add (by simpa using h2)) ?_ h5.2).1 h3⟩) h.1
    intro hx
    simp only [Bool.and_eq_true] at hx
    exact h5.1 hx.2 (hS hx.1)
   ·exact (ih2 fuel listed s a w hcl hS h.2).2 h4 j hj
  refine ⟨fun hB => ?_, fun hB => key fuel false hB⟩
  cases fuel with
  | zero => simp [planB] at hB
  | succ fuel =>
   have hk := key fuel true hB
   simp only [planB, Bool.and_eq_true, Bool.not_true, Bool.false_or, beq_iff_eq] at hB
   have h1 := hB.1.1.1
   refine ⟨fun h0 => (by rw [h1] at h0; cases h0), fun j hj => hk j ?_⟩
   rw [h1] at hj
   exact hj
theorem wp_region_plan {id : Nat} {a : Act} {w : World} (pl : Plan) (hm : P.follows .mixedOrders = true) (hs : Region.noSelect ops = true)
  (hB : planB .any ops need pl ops.size true (Array.replicate ops.size false) true = true) (hR : ∀ c a w, ¬ R (.panic c) a w) (hS : S { w with drawn := w.drawn + 1 })
  (hd : ops.all noDefer = true) (hL : ¬ LetsOut R) {r : Option Nat} (h : runPlan P ops R S need pl a { w with drawn := w.drawn + 1 }) : (Code.region id ops true).wpIn (Fr r) 0 P R a w :=
 wpIn_region_any hm (wpAny_in hd hL _ _ _ _ (any_of_N _ _ _ _ ((any_of_plan hs hR pl _ _ true a _ (Closed.start _) (fun _ => hS) h).1 hB)))
end
def plainOps (l : Array Oper) : Bool := Region.noSelect l && l.all noDefer
def L2 (Γ : Ctx) (ops : List Oper) (S : World → Prop) (need : List Nat) (pl : Plan) (k : Kont) (e : Env) (H : Heap) : Prop :=
 ∀ a w, Rep Γ.n Γ.D e a → St Γ.w0 Γ.ms H w → runPlan Γ.P ops.toArray (Q Γ.n Γ.D Γ.w0 Γ.ms k) S (fun i => need.any (Nat.beq i)) pl a w
section rules
variable {Γ : Ctx} {k : Kont} {e : Env} {H : Heap} {ops : List Oper} {S : World → Prop} {need : List Nat} {pl : Plan} {i : Nat}
 {d : Option Nat} {op : Op} {t : TypeId} {pos : String} {af : Array Edge} {g : Option (Nat × Bool)}
theorem Q.noPanic {n : Nat} {D : List Deferred} {w0 : World} {ms : List Nat} {k : Kont} (c : List PanicEntry) (a : Act) (w : World) : ¬ Q n D w0 ms k (.panic c) a w :=
 fun ⟨_, _, _, _, h⟩ => h
def Stood (Γ : Ctx) (F : Heap) (w : World) : Prop := ∃ G, St Γ.w0 Γ.ms G w ∧ ∀ x ∈ F, x ∈ G
theorem c_draw {id : Nat} {l : List Oper} (F : Heap) (need : List Nat) (pl : Plan) (hm : Γ.P.follows .mixedOrders = true) (hs : plainOps l.toArray = true)
  (hB : planB .any l.toArray (fun i => need.any (Nat.beq i)) pl l.toArray.size true (Array.replicate l.toArray.size false) true = true)
  (hF : ∀ x ∈ F, x ∈ H) (h : L2 Γ l (Stood Γ F) need pl k e H) : C Γ (.region id l.toArray true) k e H :=
 fun a _ ha hw => by
  simp only [plainOps, Bool.and_eq_true] at hs
  exact wp_region_plan pl hm hs.1 hB (fun c a w => Q.noPanic c a w) ⟨H, hw.drew, hF⟩ hs.2 Q.noOut (h a _ ha hw.drew)
theorem d_fork {r o : Plan} (h1 : L2 Γ ops S need (.step false i r) k e H) (h2 : L2 Γ ops S need o k e H) : L2 Γ ops S need (.fork i r o) k e H :=
 fun a w ha hw => ⟨h1 a w ha hw, h2 a w ha hw⟩
theorem d_stop : L2 Γ ops S need .stop k e H := fun _ _ _ _ => trivial
theorem d_nil (h : k.N e H) : L2 Γ ops S need .done k e H := fun _ _ ha hw => ⟨e, H, ha, hw, h⟩
theorem d_yield {v : Value} (ho : ops[i]? = some ⟨d, op, t, pos, af, g⟩) (hg : gdB ops e ⟨d, op, t, pos, af, g⟩ = true) (hd : dstOk Γ.n d = true)
  (hl : ∀ w, (looks ⟨d, op, t, pos, af, g⟩ = true → S w) → (execOp (ev e) ⟨d, op, t, pos, af, g⟩).run Γ.P w = .ok (.value v) w)
  (h : L2 Γ ops S need pl k (e.put d v) H) : L2 Γ ops S need (.step true i pl) k e H := by
 intro a w ha hw
 refine ⟨_, v, by rw [List.getElem?_toArray]; exact ho, .inl ⟨by rw [gdB_eq ha]; exact hg, fun w hS => ?_⟩, h _ _ (ha.put hd v) hw⟩
 rw [ha.eval]; exact hl w hS
def notTuple : Value → Bool
 | .tuple _ => false
 | _ => true
theorem light_value {P : Program} {e : Env} {o : Oper} {v : Value} (h : light P e o = some v) (hv : notTuple v = true) (w : World) :
  (execOp (ev e) o).run P w = .ok (.value v) w := by
 rcases light_run h w with h1 | ⟨h1, h2⟩
 ·exact h1
 ·subst h2; cases hv
theorem d_light {v : Value} (ho : ops[i]? = some ⟨d, op, t, pos, af, g⟩) (hl : light Γ.P e ⟨d, op, t, pos, af, g⟩ = some v) (hv : notTuple v = true)
  (hg : gdB ops e ⟨d, op, t, pos, af, g⟩ = true) (hd : dstOk Γ.n d = true)
  (h : L2 Γ ops S need pl k (e.put d v) H) : L2 Γ ops S need (.step true i pl) k e H :=
 d_yield ho hg hd (fun w _ => light_value hl hv w) h
theorem d_bool {b : Bool} (ho : ops[i]? = some ⟨d, op, t, pos, af, g⟩) (hl : light Γ.P e ⟨d, op, t, pos, af, g⟩ = some (.bool b))
  (hg : gdB ops e ⟨d, op, t, pos, af, g⟩ = true) (hd : dstOk Γ.n d = true)
  (ht : b = true → L2 Γ ops S need pl k (e.put d (.bool true)) H) (hf : b = false → L2 Γ ops S need pl k (e.put d (.bool false)) H) : L2 Γ ops S need (.step true i pl) k e H := by
 cases b
 ·exact d_light ho hl rfl hg hd (hf rfl)
 ·exact d_light ho hl rfl hg hd (ht rfl)
theorem d_pass (ho : ops[i]? = some ⟨d, op, t, pos, af, g⟩) (hg : gdB ops e ⟨d, op, t, pos, af, g⟩ = false) (hd : dstOk Γ.n d = true)
  (h : L2 Γ ops S need pl k (e.put d undef) H) : L2 Γ ops S need (.step true i pl) k e H := by
 intro a w ha hw
 exact ⟨_, undef, by rw [List.getElem?_toArray]; exact ho, .inr ⟨by rw [gdB_eq ha]; exact hg, rfl⟩, h _ _ (ha.put hd _) hw⟩
theorem d_op {o : Oper} {K : Value → Heap → Prop} (ho : ops[i]? = some o) (hg : gdB ops e o = true) (hd : dstOk Γ.n o.dst = true)
  (h : ∀ w, St Γ.w0 Γ.ms H w → opW Γ.P o e w (fun v w' => ∃ H', St Γ.w0 Γ.ms H' w' ∧ K v H'))
  (hn : need.any (Nat.beq i) = true → ∀ v H' w', K v H' → St Γ.w0 Γ.ms H' w' → S w')
  (hk : ∀ v H', K v H' → L2 Γ ops S need pl k (e.put o.dst v) H') : L2 Γ ops S need (.step false i pl) k e H := by
 intro a w ha hw
 unfold runPlan wpOp
 rw [List.getElem?_toArray, ho]
 simp only
 rw [gdB_eq ha, if_pos hg]
 refine .inl (wp_of_opW ha (h w hw) ?_)
 rintro v w' ⟨H', h1, h2⟩
 exact ⟨fun hx _ => hn hx v H' w' h2 h1, hk v H' h2 _ _ (ha.put hd v) h1⟩
theorem d_passH {o : Oper} (ho : ops[i]? = some o) (hg : gdB ops e o = false) (hd : dstOk Γ.n o.dst = true)
  (h : L2 Γ ops S need pl k (e.put o.dst undef) H) : L2 Γ ops S need (.step false i pl) k e H := by
 intro a w ha hw
 unfold runPlan wpOp
 rw [List.getElem?_toArray, ho]
 simp only
 rw [gdB_eq ha, if_neg (by rw [hg]; simp)]
 exact ⟨fun _ hS => hS, h _ _ (ha.put hd _) hw⟩
end rules
end Go.VV
