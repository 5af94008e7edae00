/- A symbolic state (frame, heap) over the walk's own laws: its definitions, and the rules of structured code. Plain lemmas; no program. -/
import Derived.OrdersHeld
import Derived.Below
import Derived.RangeFuncIn
import Derived.RangeFuncLeaves
import Derived.OrdersIn
import Derived.TacticsIn
namespace Go.VV
open Go Go.RowKit

/-! ### frames -/
abbrev Env := Nat → Value
def Env.set (e : Env) (d : Nat) (v : Value) : Env := fun t => bif Nat.beq t d then v else e t
def Env.put (e : Env) : Option Nat → Value → Env
  | some d, v => e.set d v
  | none, _ => e
def ev (e : Env) : Operand → Value
  | .tmp t => e t
  | .const v => v
  | .global g => .pointer (some ⟨g, 0, none⟩)
  | .func f => .func (.func f) #[] #[]

structure Rep (n : Nat) (D : List Deferred) (e : Env) (a : Act) : Prop where
  defers : a.defers = D
  size : a.tmps.size = n
  look : e = fun t => a.tmps.getD t undef

theorem Rep.eval {n : Nat} {D : List Deferred} {e : Env} {a : Act} (h : Rep n D e a) : a.eval = ev e := by
  funext x
  cases x <;> simp [Act.eval, ev, h.look]

def dstOk (n : Nat) : Option Nat → Bool
  | some d => Nat.blt d n
  | none => true

theorem Rep.put {n : Nat} {D : List Deferred} {e : Env} {a : Act} (h : Rep n D e a) {d : Option Nat} (hd : dstOk n d = true) (v : Value) : Rep n D (e.put d v) (a.put d v) := by
  cases d with
  | none => exact h
  | some d =>
    have hlt : d < n := by simpa [dstOk] using hd
    refine ⟨h.defers, by simp [Act.put, h.size], ?_⟩
    funext t
    have hs := h.size
    simp only [Env.put, Env.set, Act.put, h.look]
    by_cases ht : t = d
    · subst ht
      simp [hs, hlt]
    · have hb : Nat.beq t d = false := by
        cases hx : Nat.beq t d
        · rfl
        · exact absurd (Nat.eq_of_beq_eq_true hx) ht
      simp [hb, Array.getElem?_setIfInBounds_ne (Ne.symm ht)]

/-! ### heaps -/
abbrev Heap := List (Nat × Obj)

structure St (w0 : World) (ms : List Nat) (L : Heap) (w : World) : Prop where
  os : w.os = w0.os
  tape : w.tape = w0.tape
  output : w.output = w0.output
  size : w0.heap.size ≤ w.heap.size
  block : ∀ k, k < w0.heap.size → k ∉ ms → w.heap[k]? = w0.heap[k]?
  nodup : (L.map (·.1)).Nodup
  own : ∀ x ∈ L, x.1 ∈ ms ∨ w0.heap.size ≤ x.1
  holds : ∀ x ∈ L, w.heap[x.1]? = some x.2

theorem St.refl (w : World) : St w [] [] w := ⟨rfl, rfl, rfl, Nat.le_refl _, fun _ _ _ => rfl, by simp, by simp, by simp⟩

theorem St.drew {w0 w : World} {ms : List Nat} {L : Heap} (h : St w0 ms L w) : St w0 ms L { w with drawn := w.drawn + 1 } :=
  ⟨h.os, h.tape, h.output, h.size, h.block, h.nodup, h.own, h.holds⟩

theorem St.lt {w0 w : World} {ms : List Nat} {L : Heap} (h : St w0 ms L w) {x : Nat × Obj} (hx : x ∈ L) : x.1 < w.heap.size := by
  have := h.holds x hx
  by_cases hlt : x.1 < w.heap.size
  · exact hlt
  · rw [Array.getElem?_eq_none (by omega)] at this; cases this

/-- Fewer entries. -/
theorem St.sub {w0 w : World} {ms : List Nat} {L L' : Heap} (h : St w0 ms L w) (hs : L'.Sublist L) : St w0 ms L' w :=
  ⟨h.os, h.tape, h.output, h.size, h.block, (hs.map _).nodup h.nodup, fun x hx => h.own x (hs.subset hx), fun x hx => h.holds x (hs.subset hx)⟩

theorem St.perm {w0 w : World} {ms : List Nat} {L L' : Heap} (h : St w0 ms L w) (hs : L.Perm L') : St w0 ms L' w :=
  ⟨h.os, h.tape, h.output, h.size, h.block, (hs.map _).nodup_iff.1 h.nodup, fun x hx => h.own x (hs.symm.subset hx), fun x hx => h.holds x (hs.symm.subset hx)⟩

theorem St.alloc {w0 w : World} {ms : List Nat} {L : Heap} (h : St w0 ms L w) (o : Obj) : St w0 ms ((w.heap.size, o) :: L) (w.alloc o) := by
  refine ⟨h.os, h.tape, h.output, ?_, ?_, ?_, ?_, ?_⟩
  · have := h.size; show _ ≤ (w.heap.push o).size; simp; omega
  · intro k hk hm
    show (w.heap.push o)[k]? = _
    have := h.size
    rw [Array.getElem?_push, if_neg (by omega)]
    exact h.block k hk hm
  · simp only [List.map_cons, List.nodup_cons]
    refine ⟨fun hm => ?_, h.nodup⟩
    obtain ⟨x, hx, hxe⟩ := List.mem_map.1 hm
    have := h.lt hx
    omega
  · intro x hx
    rcases List.mem_cons.1 hx with rfl | hx
    · exact .inr h.size
    · exact h.own x hx
  · intro x hx
    show (w.heap.push o)[x.1]? = _
    rcases List.mem_cons.1 hx with rfl | hx
    · simp
    · have := h.lt hx
      rw [Array.getElem?_push, if_neg (by omega)]
      exact h.holds x hx

/-- The entry at the head is another object now. -/
theorem St.turn {w0 w w' : World} {ms : List Nat} {L : Heap} {b : Nat} {o o' : Obj} (h : St w0 ms ((b, o) :: L) w)
    (h1 : w'.os = w.os) (h2 : w'.tape = w.tape) (h3 : w'.output = w.output) (h4 : w'.heap.size = w.heap.size)
    (h5 : ∀ k, k ≠ b → w'.heap[k]? = w.heap[k]?) (h6 : w'.heap[b]? = some o') : St w0 ms ((b, o') :: L) w' := by
  have hnd := h.nodup
  simp only [List.map_cons, List.nodup_cons] at hnd
  refine ⟨h1.trans h.os, h2.trans h.tape, h3.trans h.output, by rw [h4]; exact h.size, ?_, ?_, ?_, ?_⟩
  · intro k hk hm
    by_cases hkb : k = b
    · subst hkb
      rcases h.own (k, o) (by simp) with h7 | h7
      · exact absurd h7 hm
      · simp at h7; omega
    · rw [h5 k hkb]; exact h.block k hk hm
  · simpa using hnd
  · intro x hx
    rcases List.mem_cons.1 hx with rfl | hx
    · exact h.own (b, o) (by simp)
    · exact h.own x (by simp [hx])
  · intro x hx
    rcases List.mem_cons.1 hx with rfl | hx
    · exact h6
    · have hne : x.1 ≠ b := fun he => hnd.1 (he ▸ List.mem_map.2 ⟨x, hx, rfl⟩)
      rw [h5 _ hne]
      exact h.holds x (by simp [hx])

theorem St.old {w0 w : World} {ms : List Nat} {L : Heap} (h : St w0 ms L w) {b : Nat} {o : Obj} (hb : w0.heap[b]? = some o) (hm : b ∉ ms) : w.heap[b]? = some o := by
  have hlt : b < w0.heap.size := by
    by_cases hlt : b < w0.heap.size
    · exact hlt
    · rw [Array.getElem?_eq_none (by omega)] at hb; cases hb
  rw [h.block b hlt hm]; exact hb

/-- Behind a call that turned the blocks 'ms2' alone, whose entries are 'F'. -/
theorem St.call {w0 w w' : World} {ms ms2 : List Nat} {F F' R : Heap} (h : St w0 ms (F ++ R) w) (hms : ∀ b ∈ ms2, ∃ o, (b, o) ∈ F) (h' : St w ms2 F' w') : St w0 ms (F' ++ R) w' := by
  have hsz := h.size
  have key : ∀ b ∈ ms2, b ∈ ms ∨ w0.heap.size ≤ b := fun b hb => by
    obtain ⟨o, ho⟩ := hms b hb
    exact h.own (b, o) (by simp [ho])
  have hnd := h.nodup
  rw [List.map_append, List.nodup_append] at hnd
  obtain ⟨hF, hR, hFR⟩ := hnd
  have hRlt : ∀ x ∈ R, x.1 < w.heap.size := fun x hx => h.lt (by simp [hx])
  have hRm : ∀ x ∈ R, x.1 ∉ ms2 := fun x hx hm => by
    obtain ⟨o, ho⟩ := hms _ hm
    exact hFR _ (List.mem_map.2 ⟨_, ho, rfl⟩) _ (List.mem_map.2 ⟨x, hx, rfl⟩) rfl
  refine ⟨h'.os.trans h.os, h'.tape.trans h.tape, h'.output.trans h.output, Nat.le_trans hsz h'.size, ?_, ?_, ?_, ?_⟩
  · intro k hk hm
    by_cases hk2 : k ∈ ms2
    · rcases key k hk2 with h1 | h1
      · exact absurd h1 hm
      · omega
    · rw [h'.block k (by omega) hk2]; exact h.block k hk hm
  · rw [List.map_append, List.nodup_append]
    refine ⟨h'.nodup, hR, ?_⟩
    intro a ha b hb hab
    obtain ⟨x, hx, rfl⟩ := List.mem_map.1 ha
    obtain ⟨y, hy, rfl⟩ := List.mem_map.1 hb
    rcases h'.own x hx with h1 | h1
    · exact hRm y hy (hab ▸ h1)
    · have := hRlt y hy; omega
  · intro x hx
    rcases List.mem_append.1 hx with hx | hx
    · rcases h'.own x hx with h1 | h1
      · exact key _ h1
      · exact .inr (by omega)
    · exact h.own x (by simp [hx])
  · intro x hx
    rcases List.mem_append.1 hx with hx | hx
    · exact h'.holds x hx
    · rw [h'.block x.1 (hRlt x hx) (hRm x hx)]
      exact h.holds x (by simp [hx])

/-! ### continuations, code -/
structure Kont where
  N : Env → Heap → Prop
  R : Env → Heap → Prop
  X : List (Nat × (Env → Heap → Prop))

def seek : List (Nat × (Env → Heap → Prop)) → Nat → Option (Env → Heap → Prop)
  | [], _ => none
  | (i, K) :: r, j => bif Nat.beq i j then some K else seek r j

def Kont.at (k : Kont) : Exit → Env → Heap → Prop
  | .normal, e, L => k.N e L
  | .ret, e, L => k.R e L
  | .exit id, e, L => match seek k.X id with
    | some K => K e L
    | none => False
  | _, _, _ => False

/-- What is asked of the world's side: a frame 'e', a heap 'L'. -/
def Q (n : Nat) (D : List Deferred) (w0 : World) (ms : List Nat) (k : Kont) (x : Exit) (a : Act) (w : World) : Prop :=
  ∃ e L, Rep n D e a ∧ St w0 ms L w ∧ k.at x e L

/-- 'r': the round of a range over a function that the code stands in; 'D': the deferred calls. -/
structure Ctx where
  P : Program
  n : Nat
  w0 : World
  ms : List Nat
  r : Option Nat := none
  D : List Deferred := []

/-- The wide fence, in a round. -/
def Fr (r : Option Nat) : Fence := { fn := fun _ => True, depth := none, alive := false, round := r }

def C (Γ : Ctx) (c : Code) (k : Kont) (e : Env) (L : Heap) : Prop :=
  ∀ a w, Rep Γ.n Γ.D e a → St Γ.w0 Γ.ms L w → Code.wpIn (Fr Γ.r) 0 Γ.P c (Q Γ.n Γ.D Γ.w0 Γ.ms k) a w

theorem Q.mono {n : Nat} {D : List Deferred} {w0 : World} {ms : List Nat} {k k' : Kont} (h : ∀ x e L, k.at x e L → k'.at x e L) {x : Exit} {a : Act} {w : World} (q : Q n D w0 ms k x a w) : Q n D w0 ms k' x a w :=
  let ⟨e, L, h1, h2, h3⟩ := q
  ⟨e, L, h1, h2, h _ _ _ h3⟩

section rules
variable {Γ : Ctx} {k : Kont} {e : Env} {L : Heap}

theorem c_seq {x y : Code} (h : C Γ x ⟨fun e L => C Γ y k e L, k.R, k.X⟩ e L) : C Γ (.seq x y) k e L := by
  intro a w ha hw
  refine wpIn_seq (wpIn_mono (h a w ha hw) ?_)
  rintro ex a' w' ⟨e', L', h1, h2, h3⟩
  cases ex <;> simp only [Kont.at, Exit.then] at h3 ⊢
  case normal => exact h3 a' w' h1 h2
  case exit id => exact ⟨e', L', h1, h2, h3⟩
  case ret => exact ⟨e', L', h1, h2, h3⟩

theorem c_skip (h : k.N e L) : C Γ .skip k e L := fun _ _ ha hw => wpIn_skip ⟨e, L, ha, hw, h⟩
theorem c_ret (h : k.R e L) : C Γ .ret k e L := fun _ _ ha hw => wpIn_ret ⟨e, L, ha, hw, h⟩
theorem c_exit {id : Nat} {K : Env → Heap → Prop} (hk : seek k.X id = some K) (h : K e L) : C Γ (.exit id) k e L :=
  fun _ _ ha hw => wpIn_exit ⟨e, L, ha, hw, by simp only [Kont.at, hk]; exact h⟩

theorem c_block {id : Nat} {c : Code} (h : C Γ c ⟨k.N, k.R, (id, k.N) :: k.X⟩ e L) : C Γ (.block id c) k e L := by
  intro a w ha hw
  refine wpIn_block (wpIn_mono (h a w ha hw) ?_)
  rintro ex a' w' ⟨e', L', h1, h2, h3⟩
  cases ex <;> simp only [Kont.at, Exit.inBlock] at h3 ⊢
  case normal => exact ⟨e', L', h1, h2, h3⟩
  case ret => exact ⟨e', L', h1, h2, h3⟩
  case exit id' =>
    simp only [seek] at h3
    by_cases hid : id' = id
    · subst hid
      have hb : Nat.beq id' id' = true := Nat.beq_refl id'
      rw [hb] at h3
      rw [if_pos rfl]
      exact ⟨e', L', h1, h2, h3⟩
    · have hb : Nat.beq id id' = false := by
        cases hx : Nat.beq id id'
        · rfl
        · exact absurd (Nat.eq_of_beq_eq_true hx).symm hid
      rw [hb] at h3
      rw [if_neg hid]
      exact ⟨e', L', h1, h2, h3⟩

theorem c_cond {c : Operand} {x y : Code} {t : Bool} (hc : ev e c = .bool t) (h1 : t = true → C Γ x k e L) (h2 : t = false → C Γ y k e L) : C Γ (.cond c x y) k e L := by
  intro a w ha hw
  refine wpIn_cond_split (t := t) (by rw [ha.eval]; exact hc) (fun ht => h1 ht a w ha hw) (fun ht => h2 ht a w ha hw)

theorem c_true {c : Operand} {x y : Code} (hc : ev e c = .bool true) (h1 : C Γ x k e L) : C Γ (.cond c x y) k e L := c_cond hc (fun _ => h1) (fun h => by cases h)
theorem c_false {c : Operand} {x y : Code} (hc : ev e c = .bool false) (h1 : C Γ y k e L) : C Γ (.cond c x y) k e L := c_cond hc (fun h => by cases h) (fun _ => h1)

theorem c_mono {c : Code} {k' : Kont} (h : C Γ c k e L) (hk : ∀ x e L, k.at x e L → k'.at x e L) : C Γ c k' e L :=
  fun a w ha hw => wpIn_mono (h a w ha hw) fun _ _ _ q => q.mono hk

/-- Fewer entries, in another order. -/
theorem c_heap {c : Code} {L' : Heap} (hs : ∀ w, St Γ.w0 Γ.ms L w → St Γ.w0 Γ.ms L' w) (h : C Γ c k e L') : C Γ c k e L :=
  fun a w ha hw => h a w ha (hs w hw)

/-- The frame behind a part of which only some slots matter. -/
def mix (M : List Nat) (vs : List (Nat × Value)) (x e : Env) : Env := fun t =>
  match vs.find? (fun p => Nat.beq p.1 t) with
  | some p => p.2
  | none => bif M.any (Nat.beq t) then x t else e t

/-- Apart from the slots 'M' the frames are one. -/
def Agree (M : List Nat) (e' e : Env) : Prop := ∀ t, M.any (Nat.beq t) = false → e' t = e t
theorem Agree.refl (M : List Nat) (e : Env) : Agree M e e := fun _ _ => rfl
theorem Agree.set {M : List Nat} {e' e : Env} {d : Nat} {v : Value} (hd : M.any (Nat.beq d) = true) (h : Agree M e' e) : Agree M (e'.set d v) e := fun t ht => by
  have hb : Nat.beq t d = false := by
    cases hx : Nat.beq t d
    · rfl
    · have := Nat.eq_of_beq_eq_true hx; subst this; rw [ht] at hd; cases hd
  simp only [Env.set, hb, cond_false]
  exact h t ht
theorem Agree.put {M : List Nat} {e' e : Env} {d : Nat} {v : Value} (hd : M.any (Nat.beq d) = true) (h : Agree M e' e) : Agree M (e'.put (some d) v) e := h.set hd
theorem Agree.mix {M : List Nat} {vs : List (Nat × Value)} {x e : Env} (hv : vs.all (fun p => M.any (Nat.beq p.1)) = true) : Agree M (mix M vs x e) e := fun t ht => by
  have hf : vs.find? (fun p => Nat.beq p.1 t) = none := by
    rw [List.find?_eq_none]
    intro p hp hb
    have h1 := (List.all_eq_true.1 hv) p hp
    have h2 := Nat.eq_of_beq_eq_true hb
    rw [h2] at h1; rw [ht] at h1; cases h1
  simp only [VV.mix, hf, ht, cond_false]
theorem Agree.trans {M : List Nat} {a b c : Env} (h : Agree M a b) (h' : Agree M b c) : Agree M a c := fun t ht => (h t ht).trans (h' t ht)
theorem Agree.more {M M' : List Nat} {a b : Env} (h : Agree M a b) (hs : M.all (fun d => M'.any (Nat.beq d)) = true) : Agree M' a b := fun t ht => h t (by
  cases hx : M.any (Nat.beq t)
  · rfl
  · obtain ⟨d, hd, hb⟩ := List.any_eq_true.1 hx
    have h1 := List.all_eq_true.1 hs d hd
    have h2 := Nat.eq_of_beq_eq_true hb
    subst h2
    rw [ht] at h1; cases h1)

def Sits (e : Env) (vs : List (Nat × Value)) : Prop := ∀ p ∈ vs, e p.1 = p.2
theorem Sits.nil {e : Env} : Sits e [] := fun _ h => by cases h
theorem Sits.cons {e : Env} {t : Nat} {v : Value} {vs : List (Nat × Value)} (h : e t = v) (hs : Sits e vs) : Sits e ((t, v) :: vs) := fun p hp => by
  rcases List.mem_cons.1 hp with rfl | hp
  · exact h
  · exact hs p hp

theorem eq_mix {M : List Nat} {vs : List (Nat × Value)} {e' e : Env} (hs : Sits e' vs) (ha : Agree M e' e) : e' = mix M vs e' e := by
  funext t
  unfold mix
  split
  · rename_i p hp
    have h1 := List.mem_of_find?_eq_some hp
    have h2 := List.find?_some hp
    have h3 := Nat.eq_of_beq_eq_true h2
    rw [← h3]; exact hs p h1
  · cases hx : M.any (Nat.beq t)
    · simp only [cond_false]; exact ha t hx
    · simp only [cond_true]

theorem least {p : Nat → Prop} (h : ∃ m, p m) : ∃ m, p m ∧ ∀ k, k < m → ¬ p k := by
  obtain ⟨m, hm⟩ := h
  induction m using Nat.strongRecOn with
  | _ m ih =>
    by_cases hx : ∃ k, k < m ∧ p k
    · obtain ⟨k, hk, hp⟩ := hx
      exact ih k hk hp
    · exact ⟨m, hm, fun k hk hp => hx ⟨k, hk, hp⟩⟩

theorem wp_loop_ix {F : Fence} {n : Nat} {P : Program} {ι : Type} {c : Code} {R : Exit → Act → World → Prop} (I : ι → Act → World → Prop) (μ : ι → Nat) {a : Act} {w : World} (i0 : ι) (h0 : I i0 a w)
    (round : ∀ i a w, I i a w → c.wpIn F n P (Exit.then (fun a' w' => ∃ j, I j a' w' ∧ μ j < μ i) R) a w) : (Code.loop c).wpIn F n P R a w := by
  classical
  let p : Act → World → Nat → Prop := fun a w m => ∃ i, I i a w ∧ μ i = m
  let f : Act → World → Nat := fun a w => if h : ∃ m, p a w m then Classical.choose (least h) else 0
  have hf : ∀ a w, (∃ m, p a w m) → p a w (f a w) ∧ ∀ k, k < f a w → ¬ p a w k := fun a w h => by
    have := Classical.choose_spec (least h)
    simp only [f, dif_pos h]
    exact this
  refine wpIn_loop (fun a w => ∃ i, I i a w) f ⟨i0, h0⟩ ?_
  intro a w hI
  obtain ⟨i1, hi1⟩ := hI
  obtain ⟨⟨i, hi, hm⟩, _⟩ := hf a w ⟨_, i1, hi1, rfl⟩
  refine wpIn_mono (round i a w hi) ?_
  intro ex a' w' h
  cases ex <;> simp only [Exit.then] at h ⊢
  case normal =>
    obtain ⟨j, hj, hlt⟩ := h
    refine ⟨⟨j, hj⟩, ?_⟩
    have h2 := (hf a' w' ⟨_, j, hj, rfl⟩).2
    rcases Nat.lt_or_ge (f a' w') (f a w) with h3 | h3
    · exact h3
    · exact absurd ⟨j, hj, rfl⟩ (h2 (μ j) (by omega))
  all_goals exact h

/-- A LOOP: 's' runs over a type of states; the tracked slots and the heap hang on it alone. -/
theorem c_loop {σ : Type} {c : Code} (M : List Nat) (vs : σ → List (Nat × Value)) (H : σ → Heap) (J : σ → Prop) (μ : σ → Nat) (s0 : σ)
    (h0 : J s0) (hv : Sits e (vs s0)) (hh : ∀ w, St Γ.w0 Γ.ms L w → St Γ.w0 Γ.ms (H s0) w)
    (round : ∀ s x, J s → C Γ c ⟨fun e' L' => ∃ s', J s' ∧ μ s' < μ s ∧ Sits e' (vs s') ∧ Agree M e' e ∧ (∀ w, St Γ.w0 Γ.ms L' w → St Γ.w0 Γ.ms (H s') w), k.R, k.X⟩ (mix M (vs s) x e) (H s)) :
    C Γ (.loop c) k e L := by
  intro a w ha hw
  refine wp_loop_ix (ι := σ) (fun s a w => J s ∧ ∃ x, Rep Γ.n Γ.D (mix M (vs s) x e) a ∧ St Γ.w0 Γ.ms (H s) w) μ s0
    ⟨h0, e, by rw [← eq_mix hv (Agree.refl M e)]; exact ha, hh w hw⟩ ?_
  rintro s a w ⟨hJ, x, ha, hw⟩
  refine wpIn_mono (round s x hJ a w ha hw) ?_
  rintro ex a' w' ⟨e', L', h1, h2, h3⟩
  cases ex <;> simp only [Kont.at, Exit.then] at h3 ⊢
  case normal =>
    obtain ⟨s', hJ', hlt, hs, hA, hH⟩ := h3
    exact ⟨s', ⟨hJ', e', by rw [← eq_mix hs hA]; exact h1, hH w' h2⟩, hlt⟩
  case exit id => exact ⟨e', L', h1, h2, h3⟩
  case ret => exact ⟨e', L', h1, h2, h3⟩

/-- A CUT: behind 'c' the slots 'M' are the 'vs' of some state, and the heap is that state's. -/
theorem c_cut {σ : Type} {x y : Code} (M : List Nat) (vs : σ → List (Nat × Value)) (H : σ → Heap) (J : σ → Prop)
    (h1 : C Γ x ⟨fun e' L' => ∃ s, J s ∧ Sits e' (vs s) ∧ Agree M e' e ∧ (∀ w, St Γ.w0 Γ.ms L' w → St Γ.w0 Γ.ms (H s) w), k.R, k.X⟩ e L)
    (h2 : ∀ s x, J s → C Γ y k (mix M (vs s) x e) (H s)) : C Γ (.seq x y) k e L := by
  refine c_seq (fun a w ha hw => wpIn_mono (h1 a w ha hw) ?_)
  rintro ex a' w' ⟨e', L', g1, g2, g3⟩
  cases ex <;> simp only [Kont.at] at g3 ⊢
  case normal =>
    obtain ⟨s, hJ, hs, hA, hH⟩ := g3
    refine ⟨e', L', g1, g2, ?_⟩
    simp only [Kont.at]
    intro a2 w2 ha2 hw2
    have := eq_mix hs hA
    exact h2 s e' hJ a2 w2 (this ▸ ha2) (hH _ hw2)
  case exit id => exact ⟨e', L', g1, g2, g3⟩
  case ret => exact ⟨e', L', g1, g2, g3⟩

end rules
end Go.VV
