/- Calls of function values; calls that turn blocks of the caller's. Plain lemmas; no program. -/
import Derived.Below
import Derived.Laws.CopyRow
import Derived.Laws.OwnMore
import Derived.Laws.Rows
import Derived.OrdersHeld
import Derived.OrdersIn
import Derived.RangeFuncIn
import Derived.RangeFuncLeaves
import Derived.Room.Entries
import Derived.TacticsIn
namespace Go.VV
open Go Go.RowKit

/-! ### frames -/
abbrev Env := Nat → Value
def Env.set (e : Env) (d : Nat) (v : Value) : Env := fun t => bif Nat.beq t d then v else e t
def Env.put (e : Env) : Option Nat → Value → Env
  | some d, v => e.set d v
  | none, _ => e
def ev (e : Env) : Operand → Value
  | .tmp t => e t
  | .const v => v
  | .global g => .pointer (some ⟨g, 0, none⟩)
  | .func f => .func (.func f) #[] #[]

structure Rep (n : Nat) (D : List Deferred) (e : Env) (a : Act) : Prop where
  defers : a.defers = D
  size : a.tmps.size = n
  look : e = fun t => a.tmps.getD t undef

theorem Rep.eval {n : Nat} {D : List Deferred} {e : Env} {a : Act} (h : Rep n D e a) : a.eval = ev e := by
  funext x
  cases x <;> simp [Act.eval, ev, h.look]

def dstOk (n : Nat) : Option Nat → Bool
  | some d => Nat.blt d n
  | none => true

theorem Rep.put {n : Nat} {D : List Deferred} {e : Env} {a : Act} (h : Rep n D e a) {d : Option Nat} (hd : dstOk n d = true) (v : Value) : Rep n D (e.put d v) (a.put d v) := by
  cases d with
  | none => exact h
  | some d =>
    have hlt : d < n := by simpa [dstOk] using hd
    refine ⟨h.defers, by simp [Act.put, h.size], ?_⟩
    funext t
    have hs := h.size
    simp only [Env.put, Env.set, Act.put, h.look]
    by_cases ht : t = d
    · subst ht
      simp [hs, hlt]
    · have hb : Nat.beq t d = false := by
        cases hx : Nat.beq t d
        · rfl
        · exact absurd (Nat.eq_of_beq_eq_true hx) ht
      simp [hb, Array.getElem?_setIfInBounds_ne (Ne.symm ht)]

/-! ### heaps -/
abbrev Heap := List (Nat × Obj)

structure St (w0 : World) (ms : List Nat) (L : Heap) (w : World) : Prop where
  os : w.os = w0.os
  tape : w.tape = w0.tape
  output : w.output = w0.output
  size : w0.heap.size ≤ w.heap.size
  block : ∀ k, k < w0.heap.size → k ∉ ms → w.heap[k]? = w0.heap[k]?
  nodup : (L.map (·.1)).Nodup
  own : ∀ x ∈ L, x.1 ∈ ms ∨ w0.heap.size ≤ x.1
  holds : ∀ x ∈ L, w.heap[x.1]? = some x.2

theorem St.refl (w : World) : St w [] [] w := ⟨rfl, rfl, rfl, Nat.le_refl _, fun _ _ _ => rfl, by simp, by simp, by simp⟩

theorem St.drew {w0 w : World} {ms : List Nat} {L : Heap} (h : St w0 ms L w) : St w0 ms L { w with drawn := w.drawn + 1 } :=
  ⟨h.os, h.tape, h.output, h.size, h.block, h.nodup, h.own, h.holds⟩

theorem St.lt {w0 w : World} {ms : List Nat} {L : Heap} (h : St w0 ms L w) {x : Nat × Obj} (hx : x ∈ L) : x.1 < w.heap.size := by
  have := h.holds x hx
  by_cases hlt : x.1 < w.heap.size
  · exact hlt
  · rw [Array.getElem?_eq_none (by omega)] at this; cases this

/-- Fewer entries. -/
theorem St.sub {w0 w : World} {ms : List Nat} {L L' : Heap} (h : St w0 ms L w) (hs : L'.Sublist L) : St w0 ms L' w :=
  ⟨h.os, h.tape, h.output, h.size, h.block, (hs.map _).nodup h.nodup, fun x hx => h.own x (hs.subset hx), fun x hx => h.holds x (hs.subset hx)⟩

theorem St.perm {w0 w : World} {ms : List Nat} {L L' : Heap} (h : St w0 ms L w) (hs : L.Perm L') : St w0 ms L' w :=
  ⟨h.os, h.tape, h.output, h.size, h.block, (hs.map _).nodup_iff.1 h.nodup, fun x hx => h.own x (hs.symm.subset hx), fun x hx => h.holds x (hs.symm.subset hx)⟩

theorem St.alloc {w0 w : World} {ms : List Nat} {L : Heap} (h : St w0 ms L w) (o : Obj) : St w0 ms ((w.heap.size, o) :: L) (w.alloc o) := by
  refine ⟨h.os, h.tape, h.output, ?_, ?_, ?_, ?_, ?_⟩
  · have := h.size; show _ ≤ (w.heap.push o).size; simp; omega
  · intro k hk hm
    show (w.heap.push o)[k]? = _
    have := h.size
    rw [Array.getElem?_push, if_neg (by omega)]
    exact h.block k hk hm
  · simp only [List.map_cons, List.nodup_cons]
    refine ⟨fun hm => ?_, h.nodup⟩
    obtain ⟨x, hx, hxe⟩ := List.mem_map.1 hm
    have := h.lt hx
    omega
  · intro x hx
    rcases List.mem_cons.1 hx with rfl | hx
    · exact .inr h.size
    · exact h.own x hx
  · intro x hx
    show (w.heap.push o)[x.1]? = _
    rcases List.mem_cons.1 hx with rfl | hx
    · simp
    · have := h.lt hx
      rw [Array.getElem?_push, if_neg (by omega)]
      exact h.holds x hx

/-- The entry at the head is another object now. -/
theorem St.turn {w0 w w' : World} {ms : List Nat} {L : Heap} {b : Nat} {o o' : Obj} (h : St w0 ms ((b, o) :: L) w)
    (h1 : w'.os = w.os) (h2 : w'.tape = w.tape) (h3 : w'.output = w.output) (h4 : w'.heap.size = w.heap.size)
    (h5 : ∀ k, k ≠ b → w'.heap[k]? = w.heap[k]?) (h6 : w'.heap[b]? = some o') : St w0 ms ((b, o') :: L) w' := by
  have hnd := h.nodup
  simp only [List.map_cons, List.nodup_cons] at hnd
  refine ⟨h1.trans h.os, h2.trans h.tape, h3.trans h.output, by rw [h4]; exact h.size, ?_, ?_, ?_, ?_⟩
  · intro k hk hm
    by_cases hkb : k = b
    · subst hkb
      rcases h.own (k, o) (by simp) with h7 | h7
      · exact absurd h7 hm
      · simp at h7; omega
    · rw [h5 k hkb]; exact h.block k hk hm
  · simpa using hnd
  · intro x hx
    rcases List.mem_cons.1 hx with rfl | hx
    · exact h.own (b, o) (by simp)
    · exact h.own x (by simp [hx])
  · intro x hx
    rcases List.mem_cons.1 hx with rfl | hx
    · exact h6
    · have hne : x.1 ≠ b := fun he => hnd.1 (he ▸ List.mem_map.2 ⟨x, hx, rfl⟩)
      rw [h5 _ hne]
      exact h.holds x (by simp [hx])

theorem St.old {w0 w : World} {ms : List Nat} {L : Heap} (h : St w0 ms L w) {b : Nat} {o : Obj} (hb : w0.heap[b]? = some o) (hm : b ∉ ms) : w.heap[b]? = some o := by
  have hlt : b < w0.heap.size := by
    by_cases hlt : b < w0.heap.size
    · exact hlt
    · rw [Array.getElem?_eq_none (by omega)] at hb; cases hb
  rw [h.block b hlt hm]; exact hb

/-- Behind a call that turned the blocks 'ms2' alone, whose entries are 'F'. -/
theorem St.call {w0 w w' : World} {ms ms2 : List Nat} {F F' R : Heap} (h : St w0 ms (F ++ R) w) (hms : ∀ b ∈ ms2, ∃ o, (b, o) ∈ F) (h' : St w ms2 F' w') : St w0 ms (F' ++ R) w' := by
  have hsz := h.size
  have key : ∀ b ∈ ms2, b ∈ ms ∨ w0.heap.size ≤ b := fun b hb => by
    obtain ⟨o, ho⟩ := hms b hb
    exact h.own (b, o) (by simp [ho])
  have hnd := h.nodup
  rw [List.map_append, List.nodup_append] at hnd
  obtain ⟨hF, hR, hFR⟩ := hnd
  have hRlt : ∀ x ∈ R, x.1 < w.heap.size := fun x hx => h.lt (by simp [hx])
  have hRm : ∀ x ∈ R, x.1 ∉ ms2 := fun x hx hm => by
    obtain ⟨o, ho⟩ := hms _ hm
    exact hFR _ (List.mem_map.2 ⟨_, ho, rfl⟩) _ (List.mem_map.2 ⟨x, hx, rfl⟩) rfl
  refine ⟨h'.os.trans h.os, h'.tape.trans h.tape, h'.output.trans h.output, Nat.le_trans hsz h'.size, ?_, ?_, ?_, ?_⟩
  · intro k hk hm
    by_cases hk2 : k ∈ ms2
    · rcases key k hk2 with h1 | h1
      · exact absurd h1 hm
      · omega
    · rw [h'.block k (by omega) hk2]; exact h.block k hk hm
  · rw [List.map_append, List.nodup_append]
    refine ⟨h'.nodup, hR, ?_⟩
    intro a ha b hb hab
    obtain ⟨x, hx, rfl⟩ := List.mem_map.1 ha
    obtain ⟨y, hy, rfl⟩ := List.mem_map.1 hb
    rcases h'.own x hx with h1 | h1
    · exact hRm y hy (hab ▸ h1)
    · have := hRlt y hy; omega
  · intro x hx
    rcases List.mem_append.1 hx with hx | hx
    · rcases h'.own x hx with h1 | h1
      · exact key _ h1
      · exact .inr (by omega)
    · exact h.own x (by simp [hx])
  · intro x hx
    rcases List.mem_append.1 hx with hx | hx
    · exact h'.holds x hx
    · rw [h'.block x.1 (hRlt x hx) (hRm x hx)]
      exact h.holds x (by simp [hx])

/-! ### continuations, code -/
structure Kont where
  N : Env → Heap → Prop
  R : Env → Heap → Prop
  X : List (Nat × (Env → Heap → Prop))

def seek : List (Nat × (Env → Heap → Prop)) → Nat → Option (Env → Heap → Prop)
  | [], _ => none
  | (i, K) :: r, j => bif Nat.beq i j then some K else seek r j

def Kont.at (k : Kont) : Exit → Env → Heap → Prop
  | .normal, e, L => k.N e L
  | .ret, e, L => k.R e L
  | .exit id, e, L => match seek k.X id with
    | some K => K e L
    | none => False
  | _, _, _ => False

/-- What is asked of the world's side: a frame 'e', a heap 'L'. -/
def Q (n : Nat) (D : List Deferred) (w0 : World) (ms : List Nat) (k : Kont) (x : Exit) (a : Act) (w : World) : Prop :=
  ∃ e L, Rep n D e a ∧ St w0 ms L w ∧ k.at x e L

/-- 'r': the round of a range over a function that the code stands in; 'D': the deferred calls. -/
structure Ctx where
  P : Program
  n : Nat
  w0 : World
  ms : List Nat
  r : Option Nat := none
  D : List Deferred := []

/-- The wide fence, in a round. -/
def Fr (r : Option Nat) : Fence := { fn := fun _ => True, depth := none, alive := false, round := r }

def C (Γ : Ctx) (c : Code) (k : Kont) (e : Env) (L : Heap) : Prop :=
  ∀ a w, Rep Γ.n Γ.D e a → St Γ.w0 Γ.ms L w → Code.wpIn (Fr Γ.r) 0 Γ.P c (Q Γ.n Γ.D Γ.w0 Γ.ms k) a w

theorem Q.mono {n : Nat} {D : List Deferred} {w0 : World} {ms : List Nat} {k k' : Kont} (h : ∀ x e L, k.at x e L → k'.at x e L) {x : Exit} {a : Act} {w : World} (q : Q n D w0 ms k x a w) : Q n D w0 ms k' x a w :=
  let ⟨e, L, h1, h2, h3⟩ := q
  ⟨e, L, h1, h2, h _ _ _ h3⟩

section rules
variable {Γ : Ctx} {k : Kont} {e : Env} {L : Heap}

theorem c_seq {x y : Code} (h : C Γ x ⟨fun e L => C Γ y k e L, k.R, k.X⟩ e L) : C Γ (.seq x y) k e L := by
  intro a w ha hw
  refine wpIn_seq (wpIn_mono (h a w ha hw) ?_)
  rintro ex a' w' ⟨e', L', h1, h2, h3⟩
  cases ex <;> simp only [Kont.at, Exit.then] at h3 ⊢
  case normal => exact h3 a' w' h1 h2
  case exit id => exact ⟨e', L', h1, h2, h3⟩
  case ret => exact ⟨e', L', h1, h2, h3⟩

theorem c_skip (h : k.N e L) : C Γ .skip k e L := fun _ _ ha hw => wpIn_skip ⟨e, L, ha, hw, h⟩
theorem c_ret (h : k.R e L) : C Γ .ret k e L := fun _ _ ha hw => wpIn_ret ⟨e, L, ha, hw, h⟩
theorem c_exit {id : Nat} {K : Env → Heap → Prop} (hk : seek k.X id = some K) (h : K e L) : C Γ (.exit id) k e L :=
  fun _ _ ha hw => wpIn_exit ⟨e, L, ha, hw, by simp only [Kont.at, hk]; exact h⟩

theorem c_block {id : Nat} {c : Code} (h : C Γ c ⟨k.N, k.R, (id, k.N) :: k.X⟩ e L) : C Γ (.block id c) k e L := by
  intro a w ha hw
  refine wpIn_block (wpIn_mono (h a w ha hw) ?_)
  rintro ex a' w' ⟨e', L', h1, h2, h3⟩
  cases ex <;> simp only [Kont.at, Exit.inBlock] at h3 ⊢
  case normal => exact ⟨e', L', h1, h2, h3⟩
  case ret => exact ⟨e', L', h1, h2, h3⟩
  case exit id' =>
    simp only [seek] at h3
    by_cases hid : id' = id
    · subst hid
      have hb : Nat.beq id' id' = true := Nat.beq_refl id'
      rw [hb] at h3
      rw [if_pos rfl]
      exact ⟨e', L', h1, h2, h3⟩
    · have hb : Nat.beq id id' = false := by
        cases hx : Nat.beq id id'
        · rfl
        · exact absurd (Nat.eq_of_beq_eq_true hx).symm hid
      rw [hb] at h3
      rw [if_neg hid]
      exact ⟨e', L', h1, h2, h3⟩

theorem c_cond {c : Operand} {x y : Code} {t : Bool} (hc : ev e c = .bool t) (h1 : t = true → C Γ x k e L) (h2 : t = false → C Γ y k e L) : C Γ (.cond c x y) k e L := by
  intro a w ha hw
  refine wpIn_cond_split (t := t) (by rw [ha.eval]; exact hc) (fun ht => h1 ht a w ha hw) (fun ht => h2 ht a w ha hw)

theorem c_true {c : Operand} {x y : Code} (hc : ev e c = .bool true) (h1 : C Γ x k e L) : C Γ (.cond c x y) k e L := c_cond hc (fun _ => h1) (fun h => by cases h)
theorem c_false {c : Operand} {x y : Code} (hc : ev e c = .bool false) (h1 : C Γ y k e L) : C Γ (.cond c x y) k e L := c_cond hc (fun h => by cases h) (fun _ => h1)

theorem c_mono {c : Code} {k' : Kont} (h : C Γ c k e L) (hk : ∀ x e L, k.at x e L → k'.at x e L) : C Γ c k' e L :=
  fun a w ha hw => wpIn_mono (h a w ha hw) fun _ _ _ q => q.mono hk

/-- Fewer entries, in another order. -/
theorem c_heap {c : Code} {L' : Heap} (hs : ∀ w, St Γ.w0 Γ.ms L w → St Γ.w0 Γ.ms L' w) (h : C Γ c k e L') : C Γ c k e L :=
  fun a w ha hw => h a w ha (hs w hw)

/-- The frame behind a part of which only some slots matter. -/
def mix (M : List Nat) (vs : List (Nat × Value)) (x e : Env) : Env := fun t =>
  match vs.find? (fun p => Nat.beq p.1 t) with
  | some p => p.2
  | none => bif M.any (Nat.beq t) then x t else e t

/-- Apart from the slots 'M' the frames are one. -/
def Agree (M : List Nat) (e' e : Env) : Prop := ∀ t, M.any (Nat.beq t) = false → e' t = e t
theorem Agree.refl (M : List Nat) (e : Env) : Agree M e e := fun _ _ => rfl
theorem Agree.set {M : List Nat} {e' e : Env} {d : Nat} {v : Value} (hd : M.any (Nat.beq d) = true) (h : Agree M e' e) : Agree M (e'.set d v) e := fun t ht => by
  have hb : Nat.beq t d = false := by
    cases hx : Nat.beq t d
    · rfl
    · have := Nat.eq_of_beq_eq_true hx; subst this; rw [ht] at hd; cases hd
  simp only [Env.set, hb, cond_false]
  exact h t ht
theorem Agree.put {M : List Nat} {e' e : Env} {d : Nat} {v : Value} (hd : M.any (Nat.beq d) = true) (h : Agree M e' e) : Agree M (e'.put (some d) v) e := h.set hd
theorem Agree.mix {M : List Nat} {vs : List (Nat × Value)} {x e : Env} (hv : vs.all (fun p => M.any (Nat.beq p.1)) = true) : Agree M (mix M vs x e) e := fun t ht => by
  have hf : vs.find? (fun p => Nat.beq p.1 t) = none := by
    rw [List.find?_eq_none]
    intro p hp hb
    have h1 := (List.all_eq_true.1 hv) p hp
    have h2 := Nat.eq_of_beq_eq_true hb
    rw [h2] at h1; rw [ht] at h1; cases h1
  simp only [VV.mix, hf, ht, cond_false]
theorem Agree.trans {M : List Nat} {a b c : Env} (h : Agree M a b) (h' : Agree M b c) : Agree M a c := fun t ht => (h t ht).trans (h' t ht)
theorem Agree.more {M M' : List Nat} {a b : Env} (h : Agree M a b) (hs : M.all (fun d => M'.any (Nat.beq d)) = true) : Agree M' a b := fun t ht => h t (by
  cases hx : M.any (Nat.beq t)
  · rfl
  · obtain ⟨d, hd, hb⟩ := List.any_eq_true.1 hx
    have h1 := List.all_eq_true.1 hs d hd
    have h2 := Nat.eq_of_beq_eq_true hb
    subst h2
    rw [ht] at h1; cases h1)

def Sits (e : Env) (vs : List (Nat × Value)) : Prop := ∀ p ∈ vs, e p.1 = p.2
theorem Sits.nil {e : Env} : Sits e [] := fun _ h => by cases h
theorem Sits.cons {e : Env} {t : Nat} {v : Value} {vs : List (Nat × Value)} (h : e t = v) (hs : Sits e vs) : Sits e ((t, v) :: vs) := fun p hp => by
  rcases List.mem_cons.1 hp with rfl | hp
  · exact h
  · exact hs p hp

theorem eq_mix {M : List Nat} {vs : List (Nat × Value)} {e' e : Env} (hs : Sits e' vs) (ha : Agree M e' e) : e' = mix M vs e' e := by
  funext t
  unfold mix
  split
  · rename_i p hp
    have h1 := List.mem_of_find?_eq_some hp
    have h2 := List.find?_some hp
    have h3 := Nat.eq_of_beq_eq_true h2
    rw [← h3]; exact hs p h1
  · cases hx : M.any (Nat.beq t)
    · simp only [cond_false]; exact ha t hx
    · simp only [cond_true]

theorem least {p : Nat → Prop} (h : ∃ m, p m) : ∃ m, p m ∧ ∀ k, k < m → ¬ p k := by
  obtain ⟨m, hm⟩ := h
  induction m using Nat.strongRecOn with
  | _ m ih =>
    by_cases hx : ∃ k, k < m ∧ p k
    · obtain ⟨k, hk, hp⟩ := hx
      exact ih k hk hp
    · exact ⟨m, hm, fun k hk hp => hx ⟨k, hk, hp⟩⟩

theorem wp_loop_ix {F : Fence} {n : Nat} {P : Program} {ι : Type} {c : Code} {R : Exit → Act → World → Prop} (I : ι → Act → World → Prop) (μ : ι → Nat) {a : Act} {w : World} (i0 : ι) (h0 : I i0 a w)
    (round : ∀ i a w, I i a w → c.wpIn F n P (Exit.then (fun a' w' => ∃ j, I j a' w' ∧ μ j < μ i) R) a w) : (Code.loop c).wpIn F n P R a w := by
  classical
  let p : Act → World → Nat → Prop := fun a w m => ∃ i, I i a w ∧ μ i = m
  let f : Act → World → Nat := fun a w => if h : ∃ m, p a w m then Classical.choose (least h) else 0
  have hf : ∀ a w, (∃ m, p a w m) → p a w (f a w) ∧ ∀ k, k < f a w → ¬ p a w k := fun a w h => by
    have := Classical.choose_spec (least h)
    simp only [f, dif_pos h]
    exact this
  refine wpIn_loop (fun a w => ∃ i, I i a w) f ⟨i0, h0⟩ ?_
  intro a w hI
  obtain ⟨i1, hi1⟩ := hI
  obtain ⟨⟨i, hi, hm⟩, _⟩ := hf a w ⟨_, i1, hi1, rfl⟩
  refine wpIn_mono (round i a w hi) ?_
  intro ex a' w' h
  cases ex <;> simp only [Exit.then] at h ⊢
  case normal =>
    obtain ⟨j, hj, hlt⟩ := h
    refine ⟨⟨j, hj⟩, ?_⟩
    have h2 := (hf a' w' ⟨_, j, hj, rfl⟩).2
    rcases Nat.lt_or_ge (f a' w') (f a w) with h3 | h3
    · exact h3
    · exact absurd ⟨j, hj, rfl⟩ (h2 (μ j) (by omega))
  all_goals exact h

/-- A LOOP: 's' runs over a type of states; the tracked slots and the heap hang on it alone. -/
theorem c_loop {σ : Type} {c : Code} (M : List Nat) (vs : σ → List (Nat × Value)) (H : σ → Heap) (J : σ → Prop) (μ : σ → Nat) (s0 : σ)
    (h0 : J s0) (hv : Sits e (vs s0)) (hh : ∀ w, St Γ.w0 Γ.ms L w → St Γ.w0 Γ.ms (H s0) w)
    (round : ∀ s x, J s → C Γ c ⟨fun e' L' => ∃ s', J s' ∧ μ s' < μ s ∧ Sits e' (vs s') ∧ Agree M e' e ∧ (∀ w, St Γ.w0 Γ.ms L' w → St Γ.w0 Γ.ms (H s') w), k.R, k.X⟩ (mix M (vs s) x e) (H s)) :
    C Γ (.loop c) k e L := by
  intro a w ha hw
  refine wp_loop_ix (ι := σ) (fun s a w => J s ∧ ∃ x, Rep Γ.n Γ.D (mix M (vs s) x e) a ∧ St Γ.w0 Γ.ms (H s) w) μ s0
    ⟨h0, e, by rw [← eq_mix hv (Agree.refl M e)]; exact ha, hh w hw⟩ ?_
  rintro s a w ⟨hJ, x, ha, hw⟩
  refine wpIn_mono (round s x hJ a w ha hw) ?_
  rintro ex a' w' ⟨e', L', h1, h2, h3⟩
  cases ex <;> simp only [Kont.at, Exit.then] at h3 ⊢
  case normal =>
    obtain ⟨s', hJ', hlt, hs, hA, hH⟩ := h3
    exact ⟨s', ⟨hJ', e', by rw [← eq_mix hs hA]; exact h1, hH w' h2⟩, hlt⟩
  case exit id => exact ⟨e', L', h1, h2, h3⟩
  case ret => exact ⟨e', L', h1, h2, h3⟩

/-- A CUT: behind 'c' the slots 'M' are the 'vs' of some state, and the heap is that state's. -/
theorem c_cut {σ : Type} {x y : Code} (M : List Nat) (vs : σ → List (Nat × Value)) (H : σ → Heap) (J : σ → Prop)
    (h1 : C Γ x ⟨fun e' L' => ∃ s, J s ∧ Sits e' (vs s) ∧ Agree M e' e ∧ (∀ w, St Γ.w0 Γ.ms L' w → St Γ.w0 Γ.ms (H s) w), k.R, k.X⟩ e L)
    (h2 : ∀ s x, J s → C Γ y k (mix M (vs s) x e) (H s)) : C Γ (.seq x y) k e L := by
  refine c_seq (fun a w ha hw => wpIn_mono (h1 a w ha hw) ?_)
  rintro ex a' w' ⟨e', L', g1, g2, g3⟩
  cases ex <;> simp only [Kont.at] at g3 ⊢
  case normal =>
    obtain ⟨s, hJ, hs, hA, hH⟩ := g3
    refine ⟨e', L', g1, g2, ?_⟩
    simp only [Kont.at]
    intro a2 w2 ha2 hw2
    have := eq_mix hs hA
    exact h2 s e' hJ a2 w2 (this ▸ ha2) (hH _ hw2)
  case exit id => exact ⟨e', L', g1, g2, g3⟩
  case ret => exact ⟨e', L', g1, g2, g3⟩

end rules
end Go.VV
namespace Go.VV
open Go Go.RowKit

/-! ### operations that only compute -/
def pureOf {α : Type} (P : Program) : Sem α → Option α
  | .pure a => some a
  | .program k => pureOf P (k P)
  | _ => none

theorem pureOf_run {α : Type} {P : Program} {s : Sem α} {a : α} (h : pureOf P s = some a) (w : World) : s.run P w = .ok a w := by
  induction s with
  | pure b => simp only [pureOf] at h; cases h; rfl
  | program k ih => simp only [pureOf] at h; simp only [Sem.run]; exact ih P h
  | _ => simp [pureOf] at h

/-- A value, written out at its head. -/
def vnf : Value → Option Value
  | .bool b => some (.bool b)
  | .int k n => some (.int k n)
  | .float k n => some (.float k n)
  | .complex k a b => some (.complex k a b)
  | .string s => some (.string s)
  | .pointer none => some (.pointer none)
  | .pointer (some ⟨b, o, s⟩) => some (.pointer (some ⟨b, o, s⟩))
  | .slice a n c => some (.slice a n c)
  | .map r => some (.map r)
  | .chan r => some (.chan r)
  | .func f a b => some (.func f a b)
  | .nilFunc => some .nilFunc
  | .iface t v => some (.iface t v)
  | .nilIface => some .nilIface
  | .agg cs => some (.agg cs)
  | .tuple vs => some (.tuple vs)

theorem vnf_eq {v u : Value} (h : vnf v = some u) : v = u := by
  cases v with
  | pointer a => cases a with
    | none => exact Option.some.inj h
    | some a => cases a; exact Option.some.inj h
  | _ => exact Option.some.inj h

def light (P : Program) (e : Env) (o : Oper) : Option Value :=
  match pureOf P (execOp (ev e) o) with
  | some (.value v) => vnf v
  | some .skip => some undef
  | _ => none

theorem light_run {P : Program} {e : Env} {o : Oper} {v : Value} (h : light P e o = some v) (w : World) :
    (execOp (ev e) o).run P w = .ok (.value v) w ∨ ((execOp (ev e) o).run P w = .ok .skip w ∧ v = undef) := by
  unfold light at h
  split at h
  · rename_i u hu
    rw [← vnf_eq h]
    exact .inl (pureOf_run hu w)
  · rename_i hu
    cases h
    exact .inr ⟨pureOf_run hu w, rfl⟩
  · cases h

/-! ### one operation -/
/-- The operation gives a value, in a world: 'K'. -/
def opW (P : Program) (o : Oper) (e : Env) (w : World) (K : Value → World → Prop) : Prop :=
  match (execOp (ev e) o).run P w with
  | .ok (.value v) w' => K v w'
  | .ok .skip w' => K undef w'
  | .ok (.enter f args) w' => Calls P f args w' (fun ex w'' => ∃ v, ex = .returned v ∧ K v w'')
  | _ => False

theorem opW_run {P : Program} {o : Oper} {e : Env} {w w' : World} {v : Value} {K : Value → World → Prop} (h : (execOp (ev e) o).run P w = .ok (.value v) w') (k : K v w') : opW P o e w K := by
  simp only [opW, h]; exact k
theorem opW_skip {P : Program} {o : Oper} {e : Env} {w w' : World} {K : Value → World → Prop} (h : (execOp (ev e) o).run P w = .ok .skip w') (k : K undef w') : opW P o e w K := by
  simp only [opW, h]; exact k
theorem opW_enter {P : Program} {o : Oper} {e : Env} {w w' : World} {f : FuncId} {args : Array Value} {K : Value → World → Prop} (h : (execOp (ev e) o).run P w = .ok (.enter f args) w')
    (k : Calls P f args w' (fun ex w'' => ∃ v, ex = .returned v ∧ K v w'')) : opW P o e w K := by
  simp only [opW, h]; exact k
theorem opW_light {P : Program} {o : Oper} {e : Env} {w : World} {v : Value} {K : Value → World → Prop} (h : light P e o = some v) (k : K v w) : opW P o e w K := by
  rcases light_run h w with h1 | ⟨h1, h2⟩
  · exact opW_run h1 k
  · subst h2; exact opW_skip h1 k
theorem opW_mono {P : Program} {o : Oper} {e : Env} {w : World} {K K' : Value → World → Prop} (h : opW P o e w K) (hk : ∀ v w', K v w' → K' v w') : opW P o e w K' := by
  unfold opW at *
  split at h
  · exact hk _ _ h
  · exact hk _ _ h
  · exact h.mono fun ex w'' ⟨v, h1, h2⟩ => ⟨v, h1, hk _ _ h2⟩
  · exact h.elim

theorem opW_noDefer {P : Program} {o : Oper} {e : Env} {w : World} {K : Value → World → Prop} (h : opW P o e w K) (c : Call) : o.op ≠ .defer c := by
  intro ho
  have h1 : execOp (ev e) o = (do pure (.defer (← resolve (ev e) c o.type))) := by simp only [execOp, ho]
  unfold opW at h
  rw [h1, Sem.run_bind] at h
  cases hr : (resolve (ev e) c o.type).run P w with
  | ok d w' => rw [hr] at h; exact h.elim
  | halt x w' => rw [hr] at h; exact h.elim

theorem calls_in {r : Option Nat} {n : Nat} {P : Program} {f : FuncId} {args : Array Value} {w : World} {R : Ending → World → Prop} (h : Calls P f args w R) : CallsIn (Fr r) n P f args w R :=
  (callsIn_wide (n := n)).2 h

theorem wpIn_of_opW {P : Program} {r : Option Nat} {n : Nat} {D : List Deferred} {o : Oper} {e : Env} {a : Act} {w : World} {K : Value → World → Prop} {K' : Act → World → Prop} {R : Exit → Act → World → Prop}
    (ha : Rep n D e a) (h : opW P o e w K) (hk : ∀ v w', K v w' → K' (a.put o.dst v) w') : o.wpIn (Fr r) 0 P a w K' R := by
  refine ⟨fun _ _ => trivial, ?_⟩
  rw [Oper.semAt_eq _ _ _ (fun c => opW_noDefer h c), ha.eval]
  unfold opW at h
  split at h
  · rename_i v w' hr; rw [hr]; exact hk _ _ h
  · rename_i w' hr; rw [hr]; exact hk _ _ h
  · rename_i f args w' hr
    rw [hr]
    refine ⟨fun h => (by cases h), calls_in (h.mono ?_)⟩
    rintro ex w'' ⟨v, rfl, hv⟩
    exact hk _ _ hv
  · exact h.elim

/-- Out of the walk without a fence into the one in a round. -/
theorem Oper.wp_in {P : Program} {r : Option Nat} {o : Oper} {a : Act} {w : World} {K : Act → World → Prop} {R : Exit → Act → World → Prop} (ho : ∀ c, o.op ≠ .defer c)
    (h : o.wp P a w K R) : o.wpIn (Fr r) 0 P a w K R := by
  refine ⟨fun _ _ => trivial, ?_⟩
  rw [Oper.semAt_eq _ _ _ ho]
  unfold Oper.wp at h
  generalize (execOp a.eval o).run P w = q at h ⊢
  cases q with
  | ok x w' =>
    cases x <;> simp only [Oper.upon] at h <;>
      first
        | exact h
        | exact ⟨fun h => (by cases h), calls_in h⟩
        | exact h.elim
        | (refine ⟨fun h => (by cases h), fun c cs _ => ?_⟩
           obtain ⟨v, w2, h1, h2⟩ := h c cs
           exact ⟨v, w2, h1, stepsIn_wide.2 h2⟩)
  | halt x w' => cases x <;> simp only [Oper.upon] at h <;> first | exact h | exact h.elim

def noDefer (o : Oper) : Bool := match o.op with
  | .defer _ => false
  | _ => true
theorem noDefer_spec {o : Oper} (h : noDefer o = true) (c : Call) : o.op ≠ .defer c := by
  intro ho; simp only [noDefer, ho] at h; cases h

theorem wpOp_in {P : Program} {r : Option Nat} {ops : Array Oper} {i : Nat} {a : Act} {w : World} {K : Act → World → Prop} {R : Exit → Act → World → Prop}
    (hd : ops.all noDefer = true) (hL : ¬ LetsOut R) (h : wpOp P ops R i K a w) : wpOpIn (Fr r) 0 P ops R i K a w := by
  unfold wpOp at h
  unfold wpOpIn
  cases ho : ops[i]? with
  | none => rw [ho] at h; exact h
  | some o =>
    rw [ho] at h
    simp only at h ⊢
    have h1 : noDefer o = true := Array.all_eq_true'.1 hd o (Array.mem_of_getElem? ho)
    split
    · rename_i hw
      rw [if_pos hw] at h
      rcases h with h | h
      · exact Oper.wp_in (noDefer_spec h1) h
      · exact absurd h.2 hL
    · rename_i hw
      rw [if_neg hw] at h
      exact ⟨fun _ _ => trivial, h⟩

theorem wpAny_in {P : Program} {r : Option Nat} {md : Region.Mode} {ops : Array Oper} {R : Exit → Act → World → Prop} (hd : ops.all noDefer = true) (hL : ¬ LetsOut R) :
    ∀ (fuel : Nat) (listed : Array Bool) (a : Act) (w : World), wpAny P md ops R fuel listed a w → wpAnyIn (Fr r) 0 P md ops R fuel listed a w
  | 0, _, _, _, h => h
  | fuel + 1, _, _, _, h => ⟨h.1, fun i hi => wpOpIn_mono (fun a' w' h' => wpAny_in hd hL fuel _ a' w' h') (wpOp_in hd hL (h.2 i hi))⟩

theorem Q.noOut {n : Nat} {D : List Deferred} {w0 : World} {ms : List Nat} {k : Kont} : ¬ LetsOut (Q n D w0 ms k) := by
  rintro ⟨_, _, _, _, _, _, h⟩
  exact h

theorem wp_of_opW {P : Program} {n : Nat} {D : List Deferred} {o : Oper} {e : Env} {a : Act} {w : World} {K : Value → World → Prop} {K' : Act → World → Prop} {R : Exit → Act → World → Prop}
    (ha : Rep n D e a) (h : opW P o e w K) (hk : ∀ v w', K v w' → K' (a.put o.dst v) w') : o.wp P a w K' R := by
  unfold Oper.wp
  rw [ha.eval]
  unfold opW at h
  split at h
  · rename_i v w' hr; rw [hr]; exact hk _ _ h
  · rename_i w' hr; rw [hr]; exact hk _ _ h
  · rename_i f args w' hr
    rw [hr]
    refine h.mono ?_
    rintro ex w'' ⟨v, rfl, hv⟩
    exact hk _ _ hv
  · exact h.elim

/-! ### guards -/
def gdB (ops : List Oper) (e : Env) (o : Oper) : Bool :=
  match o.guard with
  | none => true
  | some (j, want) => match (ops[j]?).bind (·.dst) with
    | some d => match e d with
      | .bool b => b == want
      | _ => false
    | none => false

theorem gdB_eq {n : Nat} {D : List Deferred} {ops : List Oper} {e : Env} {a : Act} {o : Oper} (ha : Rep n D e a) : Region.wanted o (yielded ops.toArray a.tmps) = gdB ops e o := by
  unfold Region.wanted gdB yielded
  cases hg : o.guard with
  | none => rfl
  | some p =>
    obtain ⟨j, want⟩ := p
    simp only [List.getElem?_toArray]
    cases hd : (ops[j]?).bind (·.dst) with
    | none => simp
    | some d =>
      simp only [Option.bind_some]
      have hl : e d = a.tmps.getD d undef := by rw [ha.look]
      rw [hl]
      rw [Array.getD_eq_getD_getElem?]
      cases hx : a.tmps[d]? with
      | none => simp [undef]
      | some v =>
        simp only [Option.getD_some]
        cases v <;> simp

/-! ### a region in the order of the text -/
def L1 (Γ : Ctx) (ops l : List Oper) (k : Kont) (e : Env) (H : Heap) : Prop :=
  ∀ a w, Rep Γ.n Γ.D e a → St Γ.w0 Γ.ms H w → wpListIn (Fr Γ.r) 0 Γ.P ops.toArray (Q Γ.n Γ.D Γ.w0 Γ.ms k) l a w

section rules
variable {Γ : Ctx} {k : Kont} {e : Env} {H : Heap} {ops rest : List Oper} {o : Oper}

theorem c_region {id : Nat} {l : List Oper} (h : L1 Γ l l k e H) : C Γ (.region id l.toArray false) k e H :=
  fun a w ha hw => wpIn_region_lit (h a w ha hw)

theorem l_nil (h : k.N e H) : L1 Γ ops [] k e H := fun _ _ ha hw => wpListIn_nil ⟨e, H, ha, hw, h⟩

theorem l_op {K : Value → Heap → Prop} (hg : gdB ops e o = true) (hd : dstOk Γ.n o.dst = true)
    (h : ∀ w, St Γ.w0 Γ.ms H w → opW Γ.P o e w (fun v w' => ∃ H', St Γ.w0 Γ.ms H' w' ∧ K v H'))
    (hk : ∀ v H', K v H' → L1 Γ ops rest k (e.put o.dst v) H') : L1 Γ ops (o :: rest) k e H := by
  intro a w ha hw
  unfold wpListIn
  rw [gdB_eq ha, if_pos hg]
  exact (wpIn_of_opW ha (h w hw) fun v w' ⟨H', h1, h2⟩ => hk v H' h2 _ _ (ha.put hd v) h1)

theorem l_light {v : Value} (hl : light Γ.P e o = some v) (hg : gdB ops e o = true) (hd : dstOk Γ.n o.dst = true)
    (h : L1 Γ ops rest k (e.put o.dst v) H) : L1 Γ ops (o :: rest) k e H :=
  l_op (K := fun u H' => u = v ∧ H' = H) hg hd (fun _ hw => opW_light hl ⟨H, hw, rfl, rfl⟩) (by rintro _ _ ⟨rfl, rfl⟩; exact h)

/-- A test: from here on it is decided. -/
theorem l_bool {b : Bool} (hl : light Γ.P e o = some (.bool b)) (hg : gdB ops e o = true) (hd : dstOk Γ.n o.dst = true)
    (ht : b = true → L1 Γ ops rest k (e.put o.dst (.bool true)) H) (hf : b = false → L1 Γ ops rest k (e.put o.dst (.bool false)) H) : L1 Γ ops (o :: rest) k e H := by
  cases b
  · exact l_light hl hg hd (hf rfl)
  · exact l_light hl hg hd (ht rfl)

theorem l_pass (hg : gdB ops e o = false) (hd : dstOk Γ.n o.dst = true)
    (h : L1 Γ ops rest k (e.put o.dst undef) H) : L1 Γ ops (o :: rest) k e H := by
  intro a w ha hw
  unfold wpListIn
  rw [gdB_eq ha, if_neg (by rw [hg]; simp)]
  exact ⟨fun _ _ => trivial, h _ _ (ha.put hd _) hw⟩

/-- Behind the operation only the slots 'M' have turned: 'vs'. -/
theorem l_mix (M : List Nat) (vs : List (Nat × Value)) (hs : Sits e vs) {e0 : Env} (ha : Agree M e e0)
    (h : ∀ x, L1 Γ ops rest k (mix M vs x e0) H) : L1 Γ ops rest k e H := by
  rw [eq_mix hs ha]; exact h e
end rules

/-! ### operands in a row -/
def evs (e : Env) : List Operand → Option (List Value)
  | [] => some []
  | x :: r => match vnf (ev e x), evs e r with
    | some v, some vs => some (v :: vs)
    | _, _ => none
theorem evs_eq {e : Env} : ∀ {l : List Operand} {vs : List Value}, evs e l = some vs → l.map (ev e) = vs
  | [], _, h => by cases h; rfl
  | x :: r, vs, h => by
    simp only [evs] at h
    split at h
    · rename_i v us h1 h2
      cases h
      simp only [List.map_cons, vnf_eq h1, evs_eq h2]
    · cases h

/-! ### calls -/
def callable (P : Program) (f : Nat) : Bool :=
  match P.funcs[f]? with
  | some fn => !(fn.name == "runtime.NumGoroutine") && !fn.body.isNone
  | none => false

theorem run_call {P : Program} {e : Env} {f : Nat} {l : List Operand} {ts : Array TypeId} {d : Option Nat} {t : TypeId} {pos : String} {af : Array Edge} {g : Option (Nat × Bool)}
    (hc : callable P f = true) (w : World) :
    (execOp (ev e) ⟨d, .call ⟨.value (.func f), l.toArray, ts⟩, t, pos, af, g⟩).run P w = .ok (.enter f (l.map (ev e)).toArray) w := by
  unfold callable at hc
  split at hc
  · rename_i fn hf
    simp only [Bool.and_eq_true, Bool.not_eq_true'] at hc
    obtain ⟨h1, h2⟩ := hc
    have hs : (program : Sem Program) = .program .pure := rfl
    have h3 : ¬ fn.name = "runtime.NumGoroutine" := by simpa using h1
    have h4 : ¬ fn.body = none := by
      intro hx; rw [hx] at h2; cases h2
    simp [execOp, resolve, Deferred.ofValue, ev, invoke, callFunc, bind, Sem.bind, Sem.run, hf, h3, h4, pure, hs]
  · cases hc

/-- What a call of 'f' comes to: it returns a value, and leaves a heap. -/
def Does (P : Program) (f : Nat) (args : List Value) (w : World) (ms : List Nat) (R : Value → Heap → Prop) : Prop :=
  Calls P f args.toArray w (fun ex w' => ∃ v H, ex = .returned v ∧ St w ms H w' ∧ R v H)

theorem Does.mono {P : Program} {f : Nat} {args : List Value} {w : World} {ms : List Nat} {R R' : Value → Heap → Prop} (h : Does P f args w ms R) (hr : ∀ v H, R v H → R' v H) : Does P f args w ms R' :=
  Calls.mono h fun _ _ ⟨v, H, h1, h2, h3⟩ => ⟨v, H, h1, h2, hr _ _ h3⟩

section rules
variable {Γ : Ctx} {k : Kont} {e : Env} {ops rest : List Oper}
  {d : Option Nat} {t : TypeId} {pos : String} {af : Array Edge} {g : Option (Nat × Bool)} {f : Nat} {l : List Operand} {ts : Array TypeId}

theorem opW_call {F G : Heap} {vs : List Value} {w : World} (ms2 : List Nat) (hc : callable Γ.P f = true) (hv : evs e l = some vs) {R : Value → Heap → Prop}
    (hw : St Γ.w0 Γ.ms (F ++ G) w) (hms : ∀ b ∈ ms2, ∃ o, (b, o) ∈ F) (hf : Does Γ.P f vs w ms2 R) {K : Value → World → Prop}
    (hk : ∀ v H' w', R v H' → St w ms2 H' w' → St Γ.w0 Γ.ms (H' ++ G) w' → K v w') :
    opW Γ.P ⟨d, .call ⟨.value (.func f), l.toArray, ts⟩, t, pos, af, g⟩ e w K := by
  refine opW_enter (run_call hc w) ?_
  rw [evs_eq hv]
  refine Calls.mono hf ?_
  rintro ex w' ⟨v, H', rfl, h1, h2⟩
  exact ⟨v, rfl, hk v H' w' h2 h1 (hw.call hms h1)⟩

/-- A call that turns nothing that there was. -/
theorem l_call {H : Heap} {vs : List Value} (hc : callable Γ.P f = true) (hv : evs e l = some vs)
    (hg : gdB ops e ⟨d, .call ⟨.value (.func f), l.toArray, ts⟩, t, pos, af, g⟩ = true) (hd : dstOk Γ.n d = true) {R : Value → Heap → Prop}
    (hf : ∀ w, St Γ.w0 Γ.ms H w → Does Γ.P f vs w [] R)
    (hk : ∀ v H', R v H' → L1 Γ ops rest k (e.put d v) (H' ++ H)) :
    L1 Γ ops (⟨d, .call ⟨.value (.func f), l.toArray, ts⟩, t, pos, af, g⟩ :: rest) k e H :=
  l_op (K := fun v H2 => ∃ H', R v H' ∧ H2 = H' ++ H) hg hd
    (fun w hw => opW_call (F := []) (G := H) [] hc hv hw (by simp) (hf w hw) fun v H' w' h1 _ h2 => ⟨_, h2, H', h1, rfl⟩)
    (by rintro v _ ⟨H', h1, rfl⟩; exact hk v H' h1)

/-- A call that turns the blocks 'ms2', which stand among the entries 'F'. -/
theorem l_callF {F G : Heap} {vs : List Value} (ms2 : List Nat) (hc : callable Γ.P f = true) (hv : evs e l = some vs)
    (hg : gdB ops e ⟨d, .call ⟨.value (.func f), l.toArray, ts⟩, t, pos, af, g⟩ = true) (hd : dstOk Γ.n d = true) {R : Value → Heap → Prop}
    (hms : ∀ b ∈ ms2, ∃ o, (b, o) ∈ F)
    (hf : ∀ w, St Γ.w0 Γ.ms (F ++ G) w → Does Γ.P f vs w ms2 R)
    (hk : ∀ v H', R v H' → L1 Γ ops rest k (e.put d v) (H' ++ G)) :
    L1 Γ ops (⟨d, .call ⟨.value (.func f), l.toArray, ts⟩, t, pos, af, g⟩ :: rest) k e (F ++ G) :=
  l_op (K := fun v H2 => ∃ H', R v H' ∧ H2 = H' ++ G) hg hd
    (fun w hw => opW_call (F := F) (G := G) ms2 hc hv hw hms (hf w hw) fun v H' w' h1 _ h2 => ⟨_, h2, H', h1, rfl⟩)
    (by rintro v _ ⟨H', h1, rfl⟩; exact hk v H' h1)
end rules

/-! ### a function's body -/
def init (args : List Value) : Env := fun t => args.getD t undef

/-- The results, out of the frame. -/
def resOf (rs : List ResultVar) (e : Env) : Sem Value := do
  let vs ← rs.toArray.mapM fun
    | .tmp t => pure (e t)
    | .cell a t => do loadVar t (← asAddr (e a))
  pure (if h : vs.size = 1 then vs[0] else .tuple vs)

def Rets (P : Program) (rs : List ResultVar) (e : Env) (w : World) (v : Value) : Prop := (resOf rs e).run P w = .ok v w

theorem rets_one {P : Program} {t : Nat} {e : Env} {w : World} {v : Value} (h : e t = v) : Rets P [.tmp t] e w v := by
  simp [Rets, resOf, h, go_sem]
theorem rets_none {P : Program} {e : Env} {w : World} : Rets P [] e w (.tuple #[]) := by
  simp [Rets, resOf, go_sem]
theorem rets_two {P : Program} {t u : Nat} {e : Env} {w : World} {v1 v2 : Value} (h1 : e t = v1) (h2 : e u = v2) : Rets P [.tmp t, .tmp u] e w (.tuple #[v1, v2]) := by
  simp [Rets, resOf, h1, h2, go_sem]
theorem rets_three {P : Program} {t u s : Nat} {e : Env} {w : World} {v1 v2 v3 : Value} (h1 : e t = v1) (h2 : e u = v2) (h3 : e s = v3) : Rets P [.tmp t, .tmp u, .tmp s] e w (.tuple #[v1, v2, v3]) := by
  simp [Rets, resOf, h1, h2, h3, go_sem]

/-- The end of a body: what it returns, and the heap that it leaves. -/
def Ends (Γ : Ctx) (rs : List ResultVar) (R : Value → Heap → Prop) (e : Env) (H : Heap) : Prop :=
  ∀ w, St Γ.w0 Γ.ms H w → ∃ v H', Rets Γ.P rs e w v ∧ St Γ.w0 Γ.ms H' w ∧ R v H'

theorem ends_of {Γ : Ctx} {rs : List ResultVar} {R : Value → Heap → Prop} {e : Env} {H H' : Heap} {v : Value} (hr : ∀ w, St Γ.w0 Γ.ms H w → Rets Γ.P rs e w v)
    (hh : ∀ w, St Γ.w0 Γ.ms H w → St Γ.w0 Γ.ms H' w) (h : R v H') : Ends Γ rs R e H := fun w hw => ⟨v, H', hr w hw, hh w hw, h⟩

def ends (Γ : Ctx) (rs : List ResultVar) (R : Value → Heap → Prop) : Kont := ⟨Ends Γ rs R, Ends Γ rs R, []⟩

theorem results_eq {fn : Func} {n : Nat} {D : List Deferred} {e : Env} {a : Act} (ha : Rep n D e a) : results fn a.tmps = resOf fn.results.toList e := by
  unfold results resOf
  simp only [Array.toArray_toList]
  have : ∀ t, a.tmps.getD t undef = e t := fun t => by rw [ha.look]
  simp only [this]
  rfl

theorem rep_init {n : Nat} {args : List Value} (hn : args.length ≤ n) : Rep n [] (init args) { tmps := args.toArray ++ Array.replicate (n - args.toArray.size) undef, defers := [] } := by
  refine ⟨rfl, by simp; omega, ?_⟩
  funext t
  simp only [init, Array.getD_eq_getD_getElem?, List.getD_eq_getElem?_getD]
  by_cases h : t < args.length
  · rw [Array.getElem?_append_left (by simpa using h)]
    simp
  · rw [Array.getElem?_append_right (by simpa using h), Array.getElem?_replicate, List.getElem?_eq_none (by omega)]
    split <;> rfl

theorem does_of {P : Program} {f : Nat} {fn : Func} {c : Code} {args : List Value} {w : World} {ms : List Nat} {R : Value → Heap → Prop} {n : Nat} {H : Heap}
    (hf : P.funcs[f]? = some fn) (hb : fn.body = some c) (hn : fn.ntmps = n) (hl : Nat.ble args.length n = true) (hH : St w ms H w)
    (h : C ⟨P, n, w, ms, none, []⟩ c (ends ⟨P, n, w, ms, none, []⟩ fn.results.toList R) (init args) H) : Does P f args w ms R := by
  subst hn
  have hl' : args.length ≤ fn.ntmps := Nat.le_of_ble_eq_true hl
  refine (callsIn_wide (n := 0)).1 (callsIn_of_wp hf hb trivial (wpIn_mono (h _ w (rep_init hl') hH) ?_))
  rintro ex a' w' ⟨e', L', h1, h2, h3⟩
  have fin : ∀ v H', Rets P fn.results.toList e' w' v → St w ms H' w' → R v H' → a'.defers = [] ∧ ∃ v, (results fn a'.tmps).run P w' = .ok v w' ∧ ∃ v' H, Ending.returned v = .returned v' ∧ St w ms H w' ∧ R v' H :=
    fun v H' g1 g2 g3 => ⟨h1.defers, v, by rw [results_eq h1]; exact g1, v, H', rfl, g2, g3⟩
  cases ex <;> simp only [Kont.at, ends, Ends, seek] at h3
  case normal => obtain ⟨v, H', g1, g2, g3⟩ := h3 w' h2; exact fin v H' g1 g2 g3
  case ret => obtain ⟨v, H', g1, g2, g3⟩ := h3 w' h2; exact fin v H' g1 g2 g3

end Go.VV
namespace Go.VV
open Go Go.RowKit

section
variable {P : Program} {ops : Array Oper} {R : Exit → Act → World → Prop} {md : Region.Mode} {S : World → Prop} {need : Nat → Bool}

/-- Whatever order is picked from here on; an operation of 'need' keeps 'S'. -/
def anyN (P : Program) (md : Region.Mode) (ops : Array Oper) (R : Exit → Act → World → Prop) (S : World → Prop) (need : Nat → Bool) : Nat → Array Bool → Act → World → Prop
  | 0, listed, a, w => Region.ready md ops listed = [] ∧ R .normal a w
  | fuel + 1, listed, a, w =>
    (Region.ready md ops listed = [] → R .normal a w) ∧
    ∀ i ∈ Region.ready md ops listed, wpOp P ops R i (fun a' w' => (need i = true → S w → S w') ∧ anyN P md ops R S need fuel (listed.setIfInBounds i true) a' w') a w

theorem any_of_N : ∀ (fuel : Nat) (listed : Array Bool) (a : Act) (w : World), anyN P md ops R S need fuel listed a w → wpAny P md ops R fuel listed a w
  | 0, _, _, _, h => h
  | fuel + 1, _, _, _, h => ⟨h.1, fun i hi => wpOp_mono (fun a' w' h' => any_of_N fuel _ a' w' h'.2) (h.2 i hi)⟩

/-- Whatever has come up has all ahead of it come up. -/
def Closed (md : Region.Mode) (ops : Array Oper) (listed : Array Bool) : Prop :=
  ∀ j oj, ops[j]? = some oj → listed.getD j false = true → ∀ e ∈ oj.after, Region.binds md e = true → listed.getD e.on false = true

theorem Closed.add {listed : Array Bool} (h : Closed md ops listed) {i : Nat} (hi : i ∈ Region.ready md ops listed) : Closed md ops (listed.setIfInBounds i true) := by
  intro j oj hj hl e he hb
  by_cases hji : j = i
  · subst hji
    obtain ⟨_, oj', hoj', hall⟩ := mem_ready.1 hi
    rw [hj] at hoj'
    cases hoj'
    exact getD_set_true (hall e he hb)
  · rw [getD_set_ne false (Ne.symm hji)] at hl
    exact getD_set_true (h j oj hj hl e he hb)

theorem Closed.start (n : Nat) : Closed md ops (Array.replicate n false) := by
  intro j oj _ hl
  exfalso
  rw [Array.getD_eq_getD_getElem?, Array.getElem?_replicate] at hl
  split at hl <;> simp at hl

/-- j waits for i, step by step. -/
def waits (md : Region.Mode) (ops : Array Oper) (i : Nat) : Nat → Nat → Bool
  | 0, _ => false
  | fuel + 1, j => match ops[j]? with
    | some oj => oj.after.any fun e => Region.binds md e && (e.on == i || waits md ops i fuel e.on)
    | none => false

theorem waits_listed {listed : Array Bool} {i : Nat} (hc : Closed md ops listed) : ∀ (fuel j : Nat), waits md ops i fuel j = true → (∀ oj, ops[j]? = some oj → ∀ e ∈ oj.after, Region.binds md e = true → listed.getD e.on false = true) → listed.getD i false = true
  | 0, _, h, _ => by simp [waits] at h
  | fuel + 1, j, h, hd => by
    simp only [waits] at h
    split at h
    · rename_i oj hoj
      obtain ⟨e, he, hb⟩ := Array.any_eq_true'.1 h
      simp only [Bool.and_eq_true, Bool.or_eq_true, beq_iff_eq] at hb
      have h1 := hd oj hoj e he hb.1
      rcases hb.2 with h2 | h2
      · rw [← h2]; exact h1
      · exact waits_listed hc fuel e.on h2 (fun o' ho' => hc e.on o' ho' h1)
    · cases h

/-- An operation that yields its value in every world may be taken first; one that does so in every world of S ('ld'), if each of those that might come before it keeps S. -/
theorem anyN_first (ld : Bool) {i : Nat} {oi : Oper} {v : Value} (hi : ops[i]? = some oi) (hsel : ∀ (j : Nat) (o : Oper) cs b, ops[j]? = some o → o.op ≠ .select cs b)
    (hR : ∀ c a w, R (.panic c) (a.put oi.dst v) w → R (.panic c) a w) :
    ∀ (fuel : Nat) (listed : Array Bool) (a : Act) (w : World),
      (∀ j oj, ops[j]? = some oj → j ≠ i → listed.getD j true = false → (∀ e ∈ oj.after, Region.binds md e = true → e.on ≠ i) → oi.apart ops oj = true) →
      (ld = true → ∀ j oj, ops[j]? = some oj → j ≠ i → listed.getD j true = false → waits md ops i ops.size j = false → need j = true) → Closed md ops listed →
      i ∈ Region.ready md ops listed → YieldsIf P ops (fun w => ld = true → S w) oi v a → (ld = true → S w) →
      anyN P md ops R S need fuel (listed.setIfInBounds i true) (a.put oi.dst v) w → anyN P md ops R S need (fuel + 1) listed a w := by
  intro fuel
  induction fuel with
  | zero =>
    intro listed a w _ _ _ hr hy hS H
    refine ⟨fun h => (by rw [h] at hr; cases hr), fun j hj => ?_⟩
    by_cases hji : j = i
    · subst hji; exact hy.wpOp hi hS ⟨fun _ h => h, H⟩
    · have := ready_mono hj hji
      rw [H.1] at this
      cases this
  | succ fuel ih =>
    intro listed a w hfree hkeep hcl hr hy hS H
    refine ⟨fun h => (by rw [h] at hr; cases hr), fun j hj => ?_⟩
    by_cases hji : j = i
    · subst hji; exact hy.wpOp hi hS ⟨fun _ h => h, H⟩
    · have h1 := H.2 j (ready_mono hj hji)
      obtain ⟨hjun, oj, hoj, hall⟩ := mem_ready.1 hj
      have hnot : ∀ e ∈ oj.after, Region.binds md e = true → e.on ≠ i := fun e he hb heq => by
        have h1 := hall e he hb
        have h0 := (mem_ready.1 hr).1
        rw [heq] at h1
        rcases Nat.lt_or_ge i listed.size with h' | h'
        · simp [h'] at h0 h1; rw [h0] at h1; cases h1
        · simp [Array.getElem?_eq_none h'] at h1
      have hap := hfree j oj hoj hji hjun hnot
      have hneed : ld = true → need j = true := fun hld => by
        refine hkeep hld j oj hoj hji hjun ?_
        cases hx : waits md ops i ops.size j
        · rfl
        · exfalso
          have h1 := waits_listed hcl ops.size j hx (fun o' ho' => by rw [hoj] at ho'; cases ho'; exact hall)
          have h0 := (mem_ready.1 hr).1
          rcases Nat.lt_or_ge i listed.size with h' | h'
          · simp [h'] at h0 h1; rw [h0] at h1; cases h1
          · simp [Array.getElem?_eq_none h'] at h1
      have h2 := wpOp_putIf hoj hap (fun cs b => hsel i oi cs b hi) (fun cs b => hsel j oj cs b hoj) hR hy h1
      have hfree' : ∀ k ok, ops[k]? = some ok → k ≠ i → (listed.setIfInBounds j true).getD k true = false →
          (∀ e ∈ ok.after, Region.binds md e = true → e.on ≠ i) → oi.apart ops ok = true := fun k ok hk hki hun hno => by
        refine hfree k ok hk hki ?_ hno
        by_cases hjk : j = k
        · subst hjk; exact hjun
        · rw [getD_set_ne true hjk] at hun; exact hun
      have hkeep' : ld = true → ∀ k ok, ops[k]? = some ok → k ≠ i → (listed.setIfInBounds j true).getD k true = false → waits md ops i ops.size k = false → need k = true := fun hld k ok hk hki hun hno => by
        refine hkeep hld k ok hk hki ?_ hno
        by_cases hjk : j = k
        · subst hjk; exact hjun
        · rw [getD_set_ne true hjk] at hun; exact hun
      refine wpOp_mono (fun a' w' h3 => ⟨h3.2.1, ih (listed.setIfInBounds j true) a' w' hfree' hkeep' (hcl.add hj) (ready_mono hr (Ne.symm hji)) h3.1 (fun hld => h3.2.1 (hneed hld) (hS hld)) ?_⟩) h2
      rw [Array.setIfInBounds_comm _ _ hji]
      exact h3.2.2

/-- Does it look at the heap? -/
def looks (o : Oper) : Bool := match o.op with
  | .load _ _ => true
  | _ => false
def looksAt (ops : Array Oper) (i : Nat) : Bool := match ops[i]? with
  | some o => looks o
  | none => true

/-- A plan: which operation next; 'step true': it yields its value in every world (of S, if it looks at the heap); 'fork': several may come next, each with its own plan. -/
inductive Plan where
  | done
  | step (l : Bool) (i : Nat) (r : Plan)
  | fork (i : Nat) (r o : Plan)
  | stop
def Plan.heads : Plan → List Nat
  | .fork i _ o => i :: o.heads
  | _ => []
def runPlan (P : Program) (ops : Array Oper) (R : Exit → Act → World → Prop) (S : World → Prop) (need : Nat → Bool) : Plan → Act → World → Prop
  | .done, a, w => R .normal a w
  | .step true i r, a, w => ∃ o v, ops[i]? = some o ∧ YieldsIf P ops (fun w => looks o = true → S w) o v a ∧ runPlan P ops R S need r (a.put o.dst v) w
  | .step false i r, a, w => wpOp P ops R i (fun a' w' => (need i = true → S w → S w') ∧ runPlan P ops R S need r a' w') a w
  | .fork i r o, a, w => wpOp P ops R i (fun a' w' => (need i = true → S w → S w') ∧ runPlan P ops R S need r a' w') a w ∧ runPlan P ops R S need o a w
  | .stop, _, _ => True

def keepB (md : Region.Mode) (ops : Array Oper) (need : Nat → Bool) (listed : Array Bool) (i : Nat) : Bool :=
  (List.range ops.size).all fun j => j == i || listed.getD j true || waits md ops i ops.size j || need j

def planB (md : Region.Mode) (ops : Array Oper) (need : Nat → Bool) : Plan → Nat → Bool → Array Bool → Bool → Bool
  | .done, _, top, listed, _ => top && (Region.ready md ops listed).isEmpty
  | .step true i r, fuel + 1, top, listed, s => top && (!(looksAt ops i) || (s && keepB md ops need listed i)) && (Region.ready md ops listed).contains i && Region.free md ops listed i && planB md ops need r fuel true (listed.setIfInBounds i true) s
  | .step false i r, fuel + 1, top, listed, s => top && (Region.ready md ops listed == [i]) && planB md ops need r fuel true (listed.setIfInBounds i true) (s && need i)
  | .fork i r o, fuel + 1, top, listed, s => (!top || Region.ready md ops listed == i :: o.heads) && (Region.ready md ops listed).contains i && planB md ops need r fuel true (listed.setIfInBounds i true) (s && need i) && planB md ops need o (fuel + 1) false listed s
  | .stop, _, top, _, _ => !top
  | .step _ _ _, 0, _, _, _ => false
  | .fork _ _ _, 0, _, _, _ => false

theorem keepB_spec {listed : Array Bool} {i : Nat} (h : keepB md ops need listed i = true) (j : Nat) (oj : Oper) (hj : ops[j]? = some oj) (hne : j ≠ i) (hun : listed.getD j true = false)
    (hno : waits md ops i ops.size j = false) : need j = true := by
  have hlt : j < ops.size := by
    rcases Nat.lt_or_ge j ops.size with h1 | h1
    · exact h1
    · rw [Array.getElem?_eq_none h1] at hj; cases hj
  have := List.all_eq_true.1 h j (List.mem_range.2 hlt)
  simpa only [hun, hno, Bool.or_eq_true, beq_iff_eq, hne, Bool.or_false, Bool.false_eq_true, false_or] using this

theorem any_of_plan (hs : Region.noSelect ops = true) (hR : ∀ c a w, ¬ R (.panic c) a w) : ∀ (pl : Plan) (fuel : Nat) (listed : Array Bool) (s : Bool) (a : Act) (w : World), Closed md ops listed → (s = true → S w) → runPlan P ops R S need pl a w →
    (planB md ops need pl fuel true listed s = true → anyN P md ops R S need fuel listed a w) ∧
    (planB md ops need pl (fuel + 1) false listed s = true → ∀ j ∈ pl.heads, wpOp P ops R j (fun a' w' => (need j = true → S w → S w') ∧ anyN P md ops R S need fuel (listed.setIfInBounds j true) a' w') a w) := by
  intro pl
  induction pl with
  | done =>
    intro fuel listed s a w _ _ h
    refine ⟨fun hB => ?_, fun _ j hj => by cases hj⟩
    simp only [planB, Bool.true_and, List.isEmpty_iff] at hB
    cases fuel with
    | zero => exact ⟨hB, h⟩
    | succ fuel => exact ⟨fun _ => h, fun j hj => by rw [hB] at hj; cases hj⟩
  | stop =>
    intro fuel listed s a w _ _ _
    exact ⟨fun hB => by simp [planB] at hB, fun _ j hj => by cases hj⟩
  | step l i r ih =>
    intro fuel listed s a w hcl hS h
    refine ⟨fun hB => ?_, fun _ j hj => by cases hj⟩
    cases fuel with
    | zero => simp [planB] at hB
    | succ fuel =>
      cases l with
      | true =>
        simp only [planB, Bool.true_and, Bool.and_eq_true] at hB
        obtain ⟨⟨⟨h1, h2⟩, h3⟩, h5⟩ := hB
        obtain ⟨o, v, ho, hy, hr⟩ := h
        have h4 : looks o = true → s = true ∧ keepB md ops need listed i = true := fun hx => by
          simp only [looksAt, ho, hx, Bool.not_true, Bool.false_or, Bool.and_eq_true] at h1
          exact h1
        refine anyN_first (looks o) ho (Region.noSelect_spec hs) (fun c a w hc => absurd hc (hR c _ w)) fuel listed a w (fun j oj hj hne hun hno => Region.free_spec ho h3 j oj hj hne hun hno)
          (fun hx j oj hj hne hun hno => keepB_spec (h4 hx).2 j oj hj hne hun hno) hcl (by simpa using h2) hy (fun hx => hS (h4 hx).1) ?_
        exact (ih fuel _ s _ w (hcl.add (by simpa using h2)) hS hr).1 h5
      | false =>
        simp only [planB, Bool.true_and, Bool.and_eq_true, beq_iff_eq] at hB
        obtain ⟨h1, h2⟩ := hB
        refine ⟨fun h0 => (by rw [h1] at h0; cases h0), fun j hj => ?_⟩
        rw [h1] at hj
        have : j = i := by simpa using hj
        subst this
        refine wpOp_mono (fun a' w' h3 => ⟨h3.1, (ih fuel _ (s && need j) a' w' (hcl.add (by rw [h1]; simp)) ?_ h3.2).1 h2⟩) h
        intro hx
        simp only [Bool.and_eq_true] at hx
        exact h3.1 hx.2 (hS hx.1)
  | fork i r o ih1 ih2 =>
    intro fuel listed s a w hcl hS h
    have key : ∀ fuel top, planB md ops need (.fork i r o) (fuel + 1) top listed s = true → ∀ j ∈ (Plan.fork i r o).heads, wpOp P ops R j (fun a' w' => (need j = true → S w → S w') ∧ anyN P md ops R S need fuel (listed.setIfInBounds j true) a' w') a w := by
      intro fuel top hB j hj
      simp only [planB, Bool.and_eq_true] at hB
      obtain ⟨⟨⟨_, h2⟩, h3⟩, h4⟩ := hB
      simp only [Plan.heads, List.mem_cons] at hj
      rcases hj with rfl | hj
      · refine wpOp_mono (fun a' w' h5 => ⟨h5.1, (ih1 fuel _ (s && need j) a' w' (hcl.add (by simpa using h2)) ?_ h5.2).1 h3⟩) h.1
        intro hx
        simp only [Bool.and_eq_true] at hx
        exact h5.1 hx.2 (hS hx.1)
      · exact (ih2 fuel listed s a w hcl hS h.2).2 h4 j hj
    refine ⟨fun hB => ?_, fun hB => key fuel false hB⟩
    cases fuel with
    | zero => simp [planB] at hB
    | succ fuel =>
      have hk := key fuel true hB
      simp only [planB, Bool.and_eq_true, Bool.not_true, Bool.false_or, beq_iff_eq] at hB
      have h1 := hB.1.1.1
      refine ⟨fun h0 => (by rw [h1] at h0; cases h0), fun j hj => hk j ?_⟩
      rw [h1] at hj
      exact hj

theorem wp_region_plan {id : Nat} {a : Act} {w : World} (pl : Plan) (hm : P.follows .mixedOrders = true) (hs : Region.noSelect ops = true)
    (hB : planB .any ops need pl ops.size true (Array.replicate ops.size false) true = true) (hR : ∀ c a w, ¬ R (.panic c) a w) (hS : S { w with drawn := w.drawn + 1 })
    (hd : ops.all noDefer = true) (hL : ¬ LetsOut R) {r : Option Nat} (h : runPlan P ops R S need pl a { w with drawn := w.drawn + 1 }) : (Code.region id ops true).wpIn (Fr r) 0 P R a w :=
  wpIn_region_any hm (wpAny_in hd hL _ _ _ _ (any_of_N _ _ _ _ ((any_of_plan hs hR pl _ _ true a _ (Closed.start _) (fun _ => hS) h).1 hB)))
end

def plainOps (l : Array Oper) : Bool := Region.noSelect l && l.all noDefer

/-! ### the same, over a symbolic state; 'S': what stood in the heap when the region began stands there still -/
def L2 (Γ : Ctx) (ops : List Oper) (S : World → Prop) (need : List Nat) (pl : Plan) (k : Kont) (e : Env) (H : Heap) : Prop :=
  ∀ a w, Rep Γ.n Γ.D e a → St Γ.w0 Γ.ms H w → runPlan Γ.P ops.toArray (Q Γ.n Γ.D Γ.w0 Γ.ms k) S (fun i => need.any (Nat.beq i)) pl a w

section rules
variable {Γ : Ctx} {k : Kont} {e : Env} {H : Heap} {ops : List Oper} {S : World → Prop} {need : List Nat} {pl : Plan} {i : Nat}
  {d : Option Nat} {op : Op} {t : TypeId} {pos : String} {af : Array Edge} {g : Option (Nat × Bool)}

theorem Q.noPanic {n : Nat} {D : List Deferred} {w0 : World} {ms : List Nat} {k : Kont} (c : List PanicEntry) (a : Act) (w : World) : ¬ Q n D w0 ms k (.panic c) a w :=
  fun ⟨_, _, _, _, h⟩ => h

/-- S: the entries F stand as they stood (and what was there ahead of the function, but for its own 'ms'). -/
def Stood (Γ : Ctx) (F : Heap) (w : World) : Prop := ∃ G, St Γ.w0 Γ.ms G w ∧ ∀ x ∈ F, x ∈ G

theorem c_draw {id : Nat} {l : List Oper} (F : Heap) (need : List Nat) (pl : Plan) (hm : Γ.P.follows .mixedOrders = true) (hs : plainOps l.toArray = true)
    (hB : planB .any l.toArray (fun i => need.any (Nat.beq i)) pl l.toArray.size true (Array.replicate l.toArray.size false) true = true)
    (hF : ∀ x ∈ F, x ∈ H) (h : L2 Γ l (Stood Γ F) need pl k e H) : C Γ (.region id l.toArray true) k e H :=
  fun a _ ha hw => by
    simp only [plainOps, Bool.and_eq_true] at hs
    exact wp_region_plan pl hm hs.1 hB (fun c a w => Q.noPanic c a w) ⟨H, hw.drew, hF⟩ hs.2 Q.noOut (h a _ ha hw.drew)

/-- Several may come next. -/
theorem d_fork {r o : Plan} (h1 : L2 Γ ops S need (.step false i r) k e H) (h2 : L2 Γ ops S need o k e H) : L2 Γ ops S need (.fork i r o) k e H :=
  fun a w ha hw => ⟨h1 a w ha hw, h2 a w ha hw⟩
theorem d_stop : L2 Γ ops S need .stop k e H := fun _ _ _ _ => trivial
theorem d_nil (h : k.N e H) : L2 Γ ops S need .done k e H := fun _ _ ha hw => ⟨e, H, ha, hw, h⟩

theorem d_yield {v : Value} (ho : ops[i]? = some ⟨d, op, t, pos, af, g⟩) (hg : gdB ops e ⟨d, op, t, pos, af, g⟩ = true) (hd : dstOk Γ.n d = true)
    (hl : ∀ w, (looks ⟨d, op, t, pos, af, g⟩ = true → S w) → (execOp (ev e) ⟨d, op, t, pos, af, g⟩).run Γ.P w = .ok (.value v) w)
    (h : L2 Γ ops S need pl k (e.put d v) H) : L2 Γ ops S need (.step true i pl) k e H := by
  intro a w ha hw
  refine ⟨_, v, by rw [List.getElem?_toArray]; exact ho, .inl ⟨by rw [gdB_eq ha]; exact hg, fun w hS => ?_⟩, h _ _ (ha.put hd v) hw⟩
  rw [ha.eval]; exact hl w hS

def notTuple : Value → Bool
  | .tuple _ => false
  | _ => true
theorem light_value {P : Program} {e : Env} {o : Oper} {v : Value} (h : light P e o = some v) (hv : notTuple v = true) (w : World) :
    (execOp (ev e) o).run P w = .ok (.value v) w := by
  rcases light_run h w with h1 | ⟨h1, h2⟩
  · exact h1
  · subst h2; cases hv

theorem d_light {v : Value} (ho : ops[i]? = some ⟨d, op, t, pos, af, g⟩) (hl : light Γ.P e ⟨d, op, t, pos, af, g⟩ = some v) (hv : notTuple v = true)
    (hg : gdB ops e ⟨d, op, t, pos, af, g⟩ = true) (hd : dstOk Γ.n d = true)
    (h : L2 Γ ops S need pl k (e.put d v) H) : L2 Γ ops S need (.step true i pl) k e H :=
  d_yield ho hg hd (fun w _ => light_value hl hv w) h

theorem d_bool {b : Bool} (ho : ops[i]? = some ⟨d, op, t, pos, af, g⟩) (hl : light Γ.P e ⟨d, op, t, pos, af, g⟩ = some (.bool b))
    (hg : gdB ops e ⟨d, op, t, pos, af, g⟩ = true) (hd : dstOk Γ.n d = true)
    (ht : b = true → L2 Γ ops S need pl k (e.put d (.bool true)) H) (hf : b = false → L2 Γ ops S need pl k (e.put d (.bool false)) H) : L2 Γ ops S need (.step true i pl) k e H := by
  cases b
  · exact d_light ho hl rfl hg hd (hf rfl)
  · exact d_light ho hl rfl hg hd (ht rfl)

theorem d_pass (ho : ops[i]? = some ⟨d, op, t, pos, af, g⟩) (hg : gdB ops e ⟨d, op, t, pos, af, g⟩ = false) (hd : dstOk Γ.n d = true)
    (h : L2 Γ ops S need pl k (e.put d undef) H) : L2 Γ ops S need (.step true i pl) k e H := by
  intro a w ha hw
  exact ⟨_, undef, by rw [List.getElem?_toArray]; exact ho, .inr ⟨by rw [gdB_eq ha]; exact hg, rfl⟩, h _ _ (ha.put hd _) hw⟩

/-- One that is carried out in its place. -/
theorem d_op {o : Oper} {K : Value → Heap → Prop} (ho : ops[i]? = some o) (hg : gdB ops e o = true) (hd : dstOk Γ.n o.dst = true)
    (h : ∀ w, St Γ.w0 Γ.ms H w → opW Γ.P o e w (fun v w' => ∃ H', St Γ.w0 Γ.ms H' w' ∧ K v H'))
    (hn : need.any (Nat.beq i) = true → ∀ v H' w', K v H' → St Γ.w0 Γ.ms H' w' → S w')
    (hk : ∀ v H', K v H' → L2 Γ ops S need pl k (e.put o.dst v) H') : L2 Γ ops S need (.step false i pl) k e H := by
  intro a w ha hw
  unfold runPlan wpOp
  rw [List.getElem?_toArray, ho]
  simp only
  rw [gdB_eq ha, if_pos hg]
  refine .inl (wp_of_opW ha (h w hw) ?_)
  rintro v w' ⟨H', h1, h2⟩
  exact ⟨fun hx _ => hn hx v H' w' h2 h1, hk v H' h2 _ _ (ha.put hd v) h1⟩

theorem d_passH {o : Oper} (ho : ops[i]? = some o) (hg : gdB ops e o = false) (hd : dstOk Γ.n o.dst = true)
    (h : L2 Γ ops S need pl k (e.put o.dst undef) H) : L2 Γ ops S need (.step false i pl) k e H := by
  intro a w ha hw
  unfold runPlan wpOp
  rw [List.getElem?_toArray, ho]
  simp only
  rw [gdB_eq ha, if_neg (by rw [hg]; simp)]
  exact ⟨fun _ hS => hS, h _ _ (ha.put hd _) hw⟩
end rules
end Go.VV
namespace Go.VV
open Go Go.RowKit

/-- A row of cells that nobody has frozen. -/
abbrev blk (l : List Value) (t : TypeId) : Obj := .cells l.toArray t (0, 0)

def cellsF : Value → Option (List Value)
  | .agg ⟨l⟩ => some l
  | .bool b => some [.bool b]
  | .int k n => some [.int k n]
  | .string s => some [.string s]
  | .pointer a => some [.pointer a]
  | .slice a n c => some [.slice a n c]
  | .map r => some [.map r]
  | .func f a b => some [.func f a b]
  | .nilFunc => some [.nilFunc]
  | .iface t v => some [.iface t v]
  | .nilIface => some [.nilIface]
  | _ => none
theorem cellsF_eq {v : Value} {l : List Value} (h : cellsF v = some l) : v.cells = l.toArray := by
  cases v <;> simp [cellsF] at h <;> subst h <;> simp [Value.cells]
/-- Each value is of one cell. -/
def ones (l : List Value) : Bool := l.all (·.oneCell')

def scalarB (P : Program) (t : TypeId) : Bool :=
  match P.underlying t with
  | some (.struct _) => false
  | some (.array _ _) => false
  | some _ => true
  | none => false
def aggB (P : Program) (t : TypeId) : Bool :=
  match P.underlying t with
  | some (.struct _) => true
  | some (.array _ _) => true
  | _ => false
def sizeP (P : Program) (t : TypeId) : Option Nat := (P.info? t).map (·.size)

theorem run_isAgg_s {P : Program} {t : TypeId} (h : scalarB P t = true) (w : World) : (isAgg t).run P w = .ok false w := by
  unfold scalarB at h
  unfold isAgg
  rw [Sem.run_bind]
  split at h
  · cases h
  · cases h
  · rename_i d hd1 hd2 hd
    rw [run_underlying hd w]
    simp only [Result.andThen_ok]
    cases d <;> first | rfl | (exfalso; exact hd1 _ rfl) | (exfalso; exact hd2 _ _ rfl)
  · cases h
theorem run_isAgg_a {P : Program} {t : TypeId} (h : aggB P t = true) (w : World) : (isAgg t).run P w = .ok true w := by
  unfold aggB at h
  unfold isAgg
  rw [Sem.run_bind]
  split at h
  · rename_i hd; rw [run_underlying hd w]; rfl
  · rename_i hd; rw [run_underlying hd w]; rfl
  · cases h
theorem run_sizeOf {P : Program} {t : TypeId} {n : Nat} (h : sizeP P t = some n) (w : World) : (sizeOf t).run P w = .ok n w := by
  unfold sizeP at h
  cases hq : P.info? t with
  | none => simp [hq] at h
  | some i =>
    have : i.size = n := by simpa [hq] using h
    simp [sizeOf, typeInfo, hq, this]

theorem cell_blk {w : World} {b off : Nat} {cs : Array Value} {t : TypeId} {fr : Nat × Nat} (h : w.heap[b]? = some (.cells cs t fr)) : w.cell? ⟨b, off, none⟩ = cs[off]? := by
  simp [World.cell?, h]

/-- Cells in a row, from a place on. -/
def Row (w : World) (b off : Nat) (l : List Value) : Prop := ∀ j v, l[j]? = some v → w.cell? ⟨b, off + j, none⟩ = some v

theorem Row.of_blk {w : World} {b off : Nat} {cs : Array Value} {t : TypeId} {fr : Nat × Nat} {l : List Value} (h : w.heap[b]? = some (.cells cs t fr)) (hl : ∀ j v, l[j]? = some v → cs[off + j]? = some v) : Row w b off l :=
  fun j v hv => by rw [cell_blk h]; exact hl j v hv
theorem Row.all {w : World} {b : Nat} {l : List Value} {t : TypeId} {fr : Nat × Nat} (h : w.heap[b]? = some (.cells l.toArray t fr)) : Row w b 0 l :=
  Row.of_blk h fun j v hv => by simpa using hv
theorem Row.nil (w : World) (b off : Nat) : Row w b off [] := fun _ _ h => by simp at h
theorem Row.add {w : World} {b off : Nat} {l : List Value} (h : Row w b off l) (j : Nat) (v : Value) (hv : l[j]? = some v) : w.cell? ((⟨b, off, none⟩ : Addr).add j) = some v := by
  have hadd : (⟨b, off, none⟩ : Addr).add j = ⟨b, off + j, none⟩ := by unfold Addr.add; split <;> simp_all
  rw [hadd]; exact h j v hv

section
variable {Γ : Ctx} {e : Env} {H : Heap} {d : Option Nat} {ty : TypeId} {pos : String} {af : Array Edge} {g : Option (Nat × Bool)}

/-- One operation over a symbolic state. -/
def Op1 (Γ : Ctx) (o : Oper) (e : Env) (H : Heap) (K : Value → Heap → Prop) : Prop :=
  ∀ w, St Γ.w0 Γ.ms H w → opW Γ.P o e w (fun v w' => ∃ H', St Γ.w0 Γ.ms H' w' ∧ K v H')

theorem St.own_blk {w0 w : World} {ms : List Nat} {H : Heap} (h : St w0 ms H w) {b : Nat} {o : Obj} (hm : (b, o) ∈ H) : w.heap[b]? = some o := h.holds _ hm

/-! new variables -/
theorem x_box {t : TypeId} {x : Operand} {v : Value} {l : List Value} (hx : vnf (ev e x) = some v) (hl : cellsF v = some l) :
    Op1 Γ ⟨d, .box t x, ty, pos, af, g⟩ e H (fun u H' => ∃ b, u = .pointer (some ⟨b, 0, none⟩) ∧ H' = (b, blk l t) :: H) := by
  intro w hw
  refine opW_run (v := .pointer (some ⟨w.heap.size, 0, none⟩)) (w' := w.alloc (blk l t)) ?_ ⟨_, hw.alloc _, _, rfl, rfl⟩
  simp [execOp, Instr.box, newVar, newRow, newObj, vnf_eq hx, cellsF_eq hl]
  rfl

def zeroP (P : Program) (t : TypeId) : Option (List Value) :=
  match P.info? t with
  | some i => match i.zero with
    | some z => cellsF z
    | none => none
  | none => none

theorem run_zero {P : Program} {t : TypeId} {l : List Value} (h : zeroP P t = some l) (w : World) : ∃ z, (zeroValue t).run P w = .ok z w ∧ z.cells = l.toArray := by
  unfold zeroP at h
  split at h
  · rename_i i hi
    split at h
    · rename_i z hz
      exact ⟨z, by simp [zeroValue, typeInfo, hi, hz], cellsF_eq h⟩
    · cases h
  · cases h

theorem x_alloc {t : TypeId} {l : List Value} (hl : zeroP Γ.P t = some l) :
    Op1 Γ ⟨d, .alloc t, ty, pos, af, g⟩ e H (fun u H' => ∃ b, u = .pointer (some ⟨b, 0, none⟩) ∧ H' = (b, blk l t) :: H) := by
  intro w hw
  obtain ⟨z, hz, hc⟩ := run_zero hl w
  refine opW_run (v := .pointer (some ⟨w.heap.size, 0, none⟩)) (w' := w.alloc (blk l t)) ?_ ⟨_, hw.alloc _, _, rfl, rfl⟩
  simp [execOp, Instr.alloc, Sem.run_bind, hz, newVar, newRow, newObj, hc]
  rfl

/-! loads -/
theorem run_load {P : Program} {t : TypeId} {x : Operand} {b off : Nat} {v : Value} (hx : vnf (ev e x) = some (.pointer (some ⟨b, off, none⟩))) (hs : scalarB P t = true) {w : World}
    (hc : w.cell? ⟨b, off, none⟩ = some v) : (execOp (ev e) ⟨d, .load t x, ty, pos, af, g⟩).run P w = .ok (.value v) w := by
  have hx := vnf_eq hx
  simp [execOp, Instr.loadAt, Instr.sureAddr, hx, loadVar, Sem.run_bind, run_isAgg_s hs, load, Sem.run, hc]

theorem x_load {t : TypeId} {x : Operand} {b off : Nat} {v : Value} (hx : vnf (ev e x) = some (.pointer (some ⟨b, off, none⟩))) (hs : scalarB Γ.P t = true)
    (hc : ∀ w, St Γ.w0 Γ.ms H w → w.cell? ⟨b, off, none⟩ = some v) : Op1 Γ ⟨d, .load t x, ty, pos, af, g⟩ e H (fun u H' => u = v ∧ H' = H) :=
  fun w hw => opW_run (run_load hx hs (hc w hw)) ⟨H, hw, rfl, rfl⟩

theorem run_loadA {P : Program} {t : TypeId} {x : Operand} {b off : Nat} {l : List Value} (hx : vnf (ev e x) = some (.pointer (some ⟨b, off, none⟩))) (hs : aggB P t = true) (hn : sizeP P t = some l.length) {w : World}
    (hc : Row w b off l) : (execOp (ev e) ⟨d, .load t x, ty, pos, af, g⟩).run P w = .ok (.value (.agg l.toArray)) w := by
  have hx := vnf_eq hx
  have hl := run_loadCells_list (P := P) w ⟨b, off, none⟩ l hc.add
  simp [execOp, Instr.loadAt, Instr.sureAddr, hx, loadVar, Sem.run_bind, run_isAgg_a hs, run_sizeOf hn, hl]

theorem x_loadA {t : TypeId} {x : Operand} {b off : Nat} {l : List Value} (hx : vnf (ev e x) = some (.pointer (some ⟨b, off, none⟩))) (hs : aggB Γ.P t = true) (hn : sizeP Γ.P t = some l.length)
    (hc : ∀ w, St Γ.w0 Γ.ms H w → Row w b off l) : Op1 Γ ⟨d, .load t x, ty, pos, af, g⟩ e H (fun u H' => u = .agg l.toArray ∧ H' = H) :=
  fun w hw => opW_run (run_loadA hx hs hn (hc w hw)) ⟨H, hw, rfl, rfl⟩

/-! what a heap gives -/
theorem at_own {w0 : World} {ms : List Nat} {b : Nat} {l : List Value} {t : TypeId} {fr : Nat × Nat} {off : Nat} {v : Value} (hm : (b, Obj.cells l.toArray t fr) ∈ H) (hv : l[off]? = some v) :
    ∀ w, St w0 ms H w → w.cell? ⟨b, off, none⟩ = some v := fun w hw => by rw [cell_blk (hw.own_blk hm)]; simpa using hv
theorem at_old {w0 : World} {ms : List Nat} {b off : Nat} {v : Value} (hc : w0.cell? ⟨b, off, none⟩ = some v) (hb : b ∉ ms) : ∀ w, St w0 ms H w → w.cell? ⟨b, off, none⟩ = some v := fun w hw => by
  unfold World.cell? at hc ⊢
  simp only at hc ⊢
  cases hq : w0.heap[b]? with
  | none => simp [hq] at hc
  | some o => rw [hw.old hq hb]; rw [hq] at hc; exact hc
theorem row_own {w0 : World} {ms : List Nat} {b : Nat} {l : List Value} {t : TypeId} {fr : Nat × Nat} (hm : (b, Obj.cells l.toArray t fr) ∈ H) : ∀ w, St w0 ms H w → Row w b 0 l := fun _ hw => Row.all (hw.own_blk hm)
theorem row_old {w0 : World} {ms : List Nat} {b off : Nat} {l : List Value} (hr : Row w0 b off l) (hb : b ∉ ms) : ∀ w, St w0 ms H w → Row w b off l := fun _ hw j v hv => at_old (hr j v hv) hb _ hw

/-! stores -/
def putL (l : List Value) (off : Nat) (vs : List Value) : List Value := l.take off ++ vs ++ l.drop (off + vs.length)

theorem St.setAt {w0 w w' : World} {ms : List Nat} {H : Heap} {i b : Nat} {o o' : Obj} (h : St w0 ms H w) (hi : H[i]? = some (b, o))
    (h1 : w'.os = w.os) (h2 : w'.tape = w.tape) (h3 : w'.output = w.output) (h4 : w'.heap.size = w.heap.size)
    (h5 : ∀ k, k ≠ b → w'.heap[k]? = w.heap[k]?) (h6 : w'.heap[b]? = some o') : St w0 ms (H.set i (b, o')) w' := by
  have hlt : i < H.length := (List.getElem?_eq_some_iff.1 hi).1
  have hget : H[i] = (b, o) := (List.getElem?_eq_some_iff.1 hi).2
  have hsplit : H = H.take i ++ (b, o) :: H.drop (i + 1) := by
    rw [← hget, List.getElem_cons_drop, List.take_append_drop]
  have hset : H.set i (b, o') = H.take i ++ (b, o') :: H.drop (i + 1) := by
    rw [List.set_eq_take_append_cons_drop, if_pos hlt]
  rw [hset]
  have h' : St w0 ms ((b, o) :: (H.take i ++ H.drop (i + 1))) w := h.perm (by
    conv => lhs; rw [hsplit]
    exact List.perm_middle)
  exact (h'.turn h1 h2 h3 h4 h5 h6).perm List.perm_middle.symm

theorem x_store {t : TypeId} {x y : Operand} {b off : Nat} {v : Value} {vs l : List Value} {T : TypeId} (i : Nat)
    (hx : vnf (ev e x) = some (.pointer (some ⟨b, off, none⟩))) (hy : vnf (ev e y) = some v) (hv : cellsF v = some vs) (hn : sizeP Γ.P t = some vs.length) (h1 : ones vs = true)
    (hi : H[i]? = some (b, blk l T)) (hl : off + vs.length ≤ l.length) :
    Op1 Γ ⟨d, .store t x y, ty, pos, af, g⟩ e H (fun u H' => u = undef ∧ H' = H.set i (b, blk (putL l off vs) T)) := by
  intro w hw
  have hx := vnf_eq hx
  have hy := vnf_eq hy
  have hg : w.heap[b]? = some (blk l T) := hw.own_blk (List.mem_of_getElem? hi)
  have hst := run_storeCells_at Γ.P b off T vs 0 l.toArray w hg (by simpa using hl) (by simpa [ones] using h1)
  simp only [Nat.add_zero] at hst
  have hc := cellsF_eq hv
  refine opW_skip (w' := w.setRow b (putL l off vs).toArray) ?_ ⟨_, ?_, rfl, rfl⟩
  · simp [execOp, Instr.storeAt, Instr.sureAddr, hx, hy, storeVar, Sem.run_bind, run_sizeOf hn, hc, hst, putL]
  · exact hw.setAt hi rfl rfl rfl (by simp [World.setRow]) (fun k hk => setRow_other w b k _ hk) (setRow_heap w b _ _ T _ hg)

/-! slices -/
theorem x_buildSlice {t el : TypeId} {len n : Nat} {parts : Array (Nat × Operand)} {ps : List (Nat × Value)} {l : List Value} {z : List Value}
    (hu : Γ.P.underlying t = some (.slice el)) (hp : (parts.map fun (i, x) => (i, ev e x)).toList = ps) (hn : sizeP Γ.P el = some n) (hsm : Nat.ble (len * n) 16777216 = true) (hpos : Nat.ble 1 (len * n) = true)
    (hz : zeroP Γ.P el = some z)
    (hf : Instr.fill (fun i => some (i * n, n)) ((Array.range (len * n)).map (z.toArray[· % z.toArray.size]!)) ps = some l.toArray) :
    Op1 Γ ⟨d, .buildSlice t len parts, ty, pos, af, g⟩ e H (fun u H' => ∃ b, u = .slice (some ⟨b, 0, none⟩) len len ∧ H' = (b, blk l el) :: H) := by
  intro w hw
  have h2 : ¬ len * n = 0 := by have := Nat.le_of_ble_eq_true hpos; omega
  have h3 : ¬ len * n > 2 ^ 24 := by have := Nat.le_of_ble_eq_true hsm; omega
  obtain ⟨zv, hzv, hzc⟩ := run_zero hz w
  refine opW_run (v := .slice (some ⟨w.heap.size, 0, none⟩) len len) (w' := w.alloc (blk l el)) ?_ ⟨_, hw.alloc _, _, rfl, rfl⟩
  subst hp
  have key : (Instr.buildSlice t len (parts.map fun (i, x) => (i, ev e x))).run Γ.P w = .ok (.slice (some ⟨w.heap.size, 0, none⟩) len len) (w.alloc (blk l el)) := by
    unfold Instr.buildSlice
    simp only [Sem.run_bind, run_underlying hu, run_sizeOf hn, Result.andThen_ok, h2, h3, if_false, hzv, hzc, hf, Sem.run_pure]
    rfl
  simp only [execOp, Sem.run_bind, key, Result.andThen_ok, Sem.run_pure]

end
end Go.VV
namespace Go.VV
open Go Go.RowKit

section
variable {P : Program} {Γ : Ctx} {e : Env} {H : Heap} {d : Option Nat} {ty : TypeId} {pos : String} {af : Array Edge} {g : Option (Nat × Bool)}

def slcP (P : Program) (t : TypeId) : Option (Nat × Nat) :=
  match P.underlying t with
  | some (.slice el) => match sizeP P el with
    | some s => some (el, s)
    | none => none
  | _ => none
def arrP (P : Program) (t : TypeId) : Option (Nat × Nat × Nat) :=
  match P.underlying t with
  | some (.array n el) => match sizeP P el with
    | some s => some (n, el, s)
    | none => none
  | _ => none
theorem slcP_spec {t el s : Nat} (h : slcP P t = some (el, s)) : P.underlying t = some (.slice el) ∧ sizeP P el = some s := by
  unfold slcP at h
  split at h
  · rename_i el' hu
    split at h
    · rename_i s' hs; cases h; exact ⟨hu, hs⟩
    · cases h
  · cases h
theorem arrP_spec {t n el s : Nat} (h : arrP P t = some (n, el, s)) : P.underlying t = some (.array n el) ∧ sizeP P el = some s := by
  unfold arrP at h
  split at h
  · rename_i n' el' hu
    split at h
    · rename_i s' hs; cases h; exact ⟨hu, hs⟩
    · cases h
  · cases h

theorem add_mk (b off k : Nat) : (⟨b, off, none⟩ : Addr).add k = ⟨b, off + k, none⟩ := by unfold Addr.add; split <;> simp_all

theorem pure_underlying {α : Type} {t : TypeId} {D : TypeDesc} (h : P.underlying t = some D) (f : TypeDesc → Sem α) : pureOf P (underlying t >>= f) = pureOf P (f D) := by
  simp [underlying, program, bind, Sem.bind, pureOf, h, pure]
theorem pure_size {α : Type} {t n : Nat} (h : sizeP P t = some n) (f : Nat → Sem α) : pureOf P (sizeOf t >>= f) = pureOf P (f n) := by
  unfold sizeP at h
  cases hq : P.info? t with
  | none => simp [hq] at h
  | some i =>
    have : i.size = n := by simpa [hq] using h
    simp [sizeOf, typeInfo, program, bind, Sem.bind, pureOf, hq, pure, this]
theorem pure_pure {α β : Type} (a : α) (f : α → Sem β) : pureOf P ((pure a : Sem α) >>= f) = pureOf P (f a) := rfl

theorem light_of_pure {o : Oper} {v : Value} (h : pureOf P (execOp (ev e) o) = some (.value v)) (hv : vnf v = some v) : light P e o = some v := by
  simp [light, h, hv]

/-- x[i], x a slice. -/
theorem idx_slice {t : TypeId} {x i : Operand} {b off n c el s : Nat} {k : IntKind} {j : Int} (m : Nat) (hx : vnf (ev e x) = some (.slice (some ⟨b, off, none⟩) n c)) (hi : vnf (ev e i) = some (.int k j))
    (hu : slcP P t = some (el, s)) (hj : j = (m : Int)) (hm : m < n) :
    light P e ⟨d, .indexAddr t x i, ty, pos, af, g⟩ = some (.pointer (some ⟨b, off + m * s, none⟩)) := by
  obtain ⟨h1, h2⟩ := slcP_spec hu
  have hx := vnf_eq hx
  have hi := vnf_eq hi
  subst hj
  refine light_of_pure ?_ rfl
  have h3 : (0 : Int) ≤ (m : Int) ∧ (m : Int) < (n : Int) := ⟨by omega, by omega⟩
  simp only [execOp, hx, hi, Instr.indexAt, asIntOf, pure_pure, bind_assoc, pure_underlying h1, h3, and_self, if_true, pure_size h2, Int.toNat_natCast, add_mk]
  rfl

/-- a[i], a an array behind a pointer. -/
theorem idx_array {t : TypeId} {x i : Operand} {b off n el s : Nat} {k : IntKind} {j : Int} (m : Nat) (hx : vnf (ev e x) = some (.pointer (some ⟨b, off, none⟩))) (hi : vnf (ev e i) = some (.int k j))
    (hu : arrP P t = some (n, el, s)) (hj : j = (m : Int)) (hm : m < n) :
    light P e ⟨d, .indexAddr t x i, ty, pos, af, g⟩ = some (.pointer (some ⟨b, off + m * s, none⟩)) := by
  obtain ⟨h1, h2⟩ := arrP_spec hu
  have hx := vnf_eq hx
  have hi := vnf_eq hi
  subst hj
  refine light_of_pure ?_ rfl
  have h3 : (0 : Int) ≤ (m : Int) ∧ (m : Int) < (n : Int) := ⟨by omega, by omega⟩
  simp only [execOp, hx, hi, Instr.indexAt, asIntOf, Instr.sureAddr, pure_pure, bind_assoc, pure_underlying h1, h3, and_self, if_true, pure_size h2, Int.toNat_natCast, add_mk]
  rfl

theorem idx_slice1 {t : TypeId} {x i : Operand} {b off n c el : Nat} {k : IntKind} {j : Int} (m : Nat) (hx : vnf (ev e x) = some (.slice (some ⟨b, off, none⟩) n c)) (hi : vnf (ev e i) = some (.int k j))
    (hu : slcP P t = some (el, 1)) (hj : j = (m : Int)) (hm : m < n) :
    light P e ⟨d, .indexAddr t x i, ty, pos, af, g⟩ = some (.pointer (some ⟨b, off + m, none⟩)) := by
  have := idx_slice (d := d) (ty := ty) (pos := pos) (af := af) (g := g) m hx hi hu hj hm
  rwa [Nat.mul_one] at this
theorem idx_array1 {t : TypeId} {x i : Operand} {b off n el : Nat} {k : IntKind} {j : Int} (m : Nat) (hx : vnf (ev e x) = some (.pointer (some ⟨b, off, none⟩))) (hi : vnf (ev e i) = some (.int k j))
    (hu : arrP P t = some (n, el, 1)) (hj : j = (m : Int)) (hm : m < n) :
    light P e ⟨d, .indexAddr t x i, ty, pos, af, g⟩ = some (.pointer (some ⟨b, off + m, none⟩)) := by
  have := idx_array (d := d) (ty := ty) (pos := pos) (af := af) (g := g) m hx hi hu hj hm
  rwa [Nat.mul_one] at this

theorem idx_slice0 {t : TypeId} {x i : Operand} {b n c el : Nat} {k : IntKind} {j : Int} (m : Nat) (hx : vnf (ev e x) = some (.slice (some ⟨b, 0, none⟩) n c)) (hi : vnf (ev e i) = some (.int k j))
    (hu : slcP P t = some (el, 1)) (hj : j = (m : Int)) (hm : m < n) :
    light P e ⟨d, .indexAddr t x i, ty, pos, af, g⟩ = some (.pointer (some ⟨b, m, none⟩)) := by
  have := idx_slice1 (d := d) (ty := ty) (pos := pos) (af := af) (g := g) m hx hi hu hj hm
  rwa [Nat.zero_add] at this
theorem idx_array0 {t : TypeId} {x i : Operand} {b n el : Nat} {k : IntKind} {j : Int} (m : Nat) (hx : vnf (ev e x) = some (.pointer (some ⟨b, 0, none⟩))) (hi : vnf (ev e i) = some (.int k j))
    (hu : arrP P t = some (n, el, 1)) (hj : j = (m : Int)) (hm : m < n) :
    light P e ⟨d, .indexAddr t x i, ty, pos, af, g⟩ = some (.pointer (some ⟨b, m, none⟩)) := by
  have := idx_array1 (d := d) (ty := ty) (pos := pos) (af := af) (g := g) m hx hi hu hj hm
  rwa [Nat.zero_add] at this

/-- Where a cut begins: at the end of the capacity nothing moves. -/
def cutAt (off l s c : Nat) : Nat := if c = l then off else off + l * s

theorem Row.cut {w : World} {b off : Nat} {L : List Value} (h : Row w b off L) {l k s c : Nat} (hc : l + k ≤ c) : Row w b (cutAt off l s c) ((L.drop (l * s)).take (k * s)) := by
  unfold cutAt
  by_cases hcl : c = l
  · rw [if_pos hcl]
    have : k = 0 := by omega
    subst this
    simp only [Nat.zero_mul, List.take_zero]
    exact Row.nil w b off
  · rw [if_neg hcl]
    intro j v hv
    rw [List.getElem?_take] at hv
    split at hv
    · rw [List.getElem?_drop] at hv
      rw [Nat.add_assoc]; exact h _ _ hv
    · cases hv

/-- The same for elements of one cell. -/
def cut1 (off l c : Nat) : Nat := if c = l then off else off + l
theorem cut1_eq (off l c : Nat) : cutAt off l 1 c = cut1 off l c := by simp [cutAt, cut1]
theorem Row.cut1 {w : World} {b off : Nat} {L : List Value} (h : Row w b off L) {l k c : Nat} (hc : l + k ≤ c) : Row w b (VV.cut1 off l c) ((L.drop l).take k) := by
  have := h.cut (l := l) (k := k) (s := 1) hc
  rwa [cut1_eq, Nat.mul_one, Nat.mul_one] at this

/-- A bound of a cut, if it stands there. -/
def bnd1 (e : Env) (x : Operand) : Option Int :=
  match vnf (ev e x) with
  | some (.int _ j) => some j
  | _ => none
def bndF (e : Env) : Option Operand → Option (Option Int)
  | none => some none
  | some x => (bnd1 e x).map some

theorem bound_run {x : Operand} {j : Int} {m y : Nat} {code : BoundsCode} (hx : bndF e (some x) = some (some j)) (hj : j = (m : Int)) (hm : m ≤ y) :
    Instr.sliceBound (ev e x) y code = pure m := by
  simp only [bndF, Option.map_eq_some_iff, Option.some.injEq, exists_eq_right] at hx
  unfold bnd1 at hx
  split at hx
  · rename_i h
    simp only [Option.some.injEq] at hx
    subst hx
    have := vnf_eq h
    subst hj
    have h3 : (0 : Int) ≤ (m : Int) ∧ (m : Int) ≤ (y : Int) := ⟨by omega, by omega⟩
    simp [Instr.sliceBound, this, asIntOf, h3]
  · cases hx

theorem bounds_run {isS : Bool} {lo hi : Option Operand} {n c : Nat} {jl jh : Option Int} (l h : Nat)
    (hlo : bndF e lo = some jl) (hhi : bndF e hi = some jh) (hl : jl.getD 0 = (l : Int)) (hh : jh.getD n = (h : Int)) (h1 : l ≤ h) (h2 : h ≤ c) :
    Instr.sliceBounds isS n c (lo.map (ev e)) (hi.map (ev e)) none = pure (l, h, c) := by
  have bn : ∀ (x : Operand), bndF e (some x) ≠ some none := fun x hx => by
    simp [bndF] at hx
  have fin : ∀ (f : BoundsCode → Sem Nat), (∀ code, f code = (pure h : Sem Nat)) → ∀ cd, ((f cd >>= fun h' => (match lo.map (ev e) with
      | some v => Instr.sliceBound v h' .sliceB
      | none => (pure 0 : Sem Nat)) >>= fun l => pure (l, h', c)) : Sem (Nat × Nat × Nat)) = pure (l, h, c) := by
    intro f hf cd
    rw [hf]
    simp only [pure_bind]
    cases lo with
    | none =>
      cases hlo
      simp only [Option.getD_none] at hl
      have : l = 0 := by omega
      subst this
      rfl
    | some y =>
      cases jl with
      | none => exact absurd hlo (bn y)
      | some j =>
        simp only [Option.map_some]
        rw [bound_run hlo (by simpa using hl) h1]
        rfl
  cases hi with
  | none =>
    cases hhi
    simp only [Option.getD_none] at hh
    have hnh : n = h := by omega
    subst hnh
    have := fin (fun _ => pure n) (fun _ => rfl) .index
    cases lo <;> (simp only [Instr.sliceBounds] ; exact this)
  | some y =>
    cases jh with
    | none => exact absurd hhi (bn y)
    | some j =>
      have := fin (fun cd => Instr.sliceBound (ev e y) c cd) (fun cd => bound_run hhi (by simpa using hh) h2) (if isS then .sliceAcap else .sliceAlen)
      cases lo <;> (simp only [Instr.sliceBounds] ; exact this)

/-- s[l:h], s a slice (a bound that isn't written: 0, or the length). -/
theorem cut_slice {t : TypeId} {x : Operand} {lo hi : Option Operand} {b off n c el s : Nat} {jl jh : Option Int} (l h : Nat) (hx : vnf (ev e x) = some (.slice (some ⟨b, off, none⟩) n c))
    (hu : slcP P t = some (el, s)) (hlo : bndF e lo = some jl) (hhi : bndF e hi = some jh) (hl : jl.getD 0 = (l : Int)) (hh : jh.getD n = (h : Int)) (h1 : l ≤ h) (h2 : h ≤ c) :
    light P e ⟨d, .slice t x lo hi none, ty, pos, af, g⟩ = some (.slice (some ⟨b, cutAt off l s c, none⟩) (h - l) (c - l)) := by
  obtain ⟨g1, g2⟩ := slcP_spec hu
  have hx := vnf_eq hx
  refine light_of_pure ?_ rfl
  have hb := bounds_run (isS := true) l h hlo hhi hl hh h1 h2
  simp only [execOp, hx, Instr.sliceAt, Instr.slice, bind_assoc, pure_underlying g1, Option.map_none, hb, pure_pure, pure_size g2]
  unfold cutAt
  by_cases hcl : c = l
  · simp only [hcl, if_true]; rfl
  · simp only [hcl, if_false, Option.map_some, add_mk]; rfl

/-- a[l:h], a an array behind a pointer. -/
theorem cut_array {t : TypeId} {x : Operand} {lo hi : Option Operand} {b off n el s : Nat} {jl jh : Option Int} (l h : Nat) (hx : vnf (ev e x) = some (.pointer (some ⟨b, off, none⟩)))
    (hu : arrP P t = some (n, el, s)) (hlo : bndF e lo = some jl) (hhi : bndF e hi = some jh) (hl : jl.getD 0 = (l : Int)) (hh : jh.getD n = (h : Int)) (h1 : l ≤ h) (h2 : h ≤ n) :
    light P e ⟨d, .slice t x lo hi none, ty, pos, af, g⟩ = some (.slice (some ⟨b, cutAt off l s n, none⟩) (h - l) (n - l)) := by
  obtain ⟨g1, g2⟩ := arrP_spec hu
  have hx := vnf_eq hx
  refine light_of_pure ?_ rfl
  have hb := bounds_run (isS := false) l h hlo hhi hl hh h1 h2
  simp only [execOp, hx, Instr.sliceAt, Instr.sureAddr, bind_assoc, pure_pure, pure_underlying g1, Option.map_none, hb, pure_size g2]
  unfold cutAt
  by_cases hcl : n = l
  · simp only [hcl, if_true]; rfl
  · simp only [hcl, if_false, add_mk]; rfl

theorem cut_slice1 {t : TypeId} {x : Operand} {lo hi : Option Operand} {b off n c el : Nat} {jl jh : Option Int} (l h : Nat) (hx : vnf (ev e x) = some (.slice (some ⟨b, off, none⟩) n c))
    (hu : slcP P t = some (el, 1)) (hlo : bndF e lo = some jl) (hhi : bndF e hi = some jh) (hl : jl.getD 0 = (l : Int)) (hh : jh.getD n = (h : Int)) (h1 : l ≤ h) (h2 : h ≤ c) :
    light P e ⟨d, .slice t x lo hi none, ty, pos, af, g⟩ = some (.slice (some ⟨b, cut1 off l c, none⟩) (h - l) (c - l)) := by
  have := cut_slice (d := d) (ty := ty) (pos := pos) (af := af) (g := g) l h hx hu hlo hhi hl hh h1 h2
  rwa [cut1_eq] at this
theorem cut_array1 {t : TypeId} {x : Operand} {lo hi : Option Operand} {b off n el : Nat} {jl jh : Option Int} (l h : Nat) (hx : vnf (ev e x) = some (.pointer (some ⟨b, off, none⟩)))
    (hu : arrP P t = some (n, el, 1)) (hlo : bndF e lo = some jl) (hhi : bndF e hi = some jh) (hl : jl.getD 0 = (l : Int)) (hh : jh.getD n = (h : Int)) (h1 : l ≤ h) (h2 : h ≤ n) :
    light P e ⟨d, .slice t x lo hi none, ty, pos, af, g⟩ = some (.slice (some ⟨b, cut1 off l n, none⟩) (h - l) (n - l)) := by
  have := cut_array (d := d) (ty := ty) (pos := pos) (af := af) (g := g) l h hx hu hlo hhi hl hh h1 h2
  rwa [cut1_eq] at this

/-! ### a slice of the call's own, that is appended to -/
/-- The slice 'v' holds 'n' elements of 's' cells each, the cells 'xs'; its memory is the entries 'G'. -/
inductive Vec (T s : Nat) : Value → Nat → List Value → Heap → Prop
  | nil : Vec T s (.slice none 0 0) 0 [] []
  | row (b n cap : Nat) (xs sp : List Value) (hn : xs.length = n * s) (hc : (xs ++ sp).length = cap * s) (hm : cap ≤ maxLen) (hle : n ≤ cap) : Vec T s (.slice (some ⟨b, 0, none⟩) n cap) n xs [(b, blk (xs ++ sp) T)]

theorem Vec.len {T s : Nat} {v : Value} {n : Nat} {xs : List Value} {G : Heap} (h : Vec T s v n xs G) : xs.length = n * s := by
  cases h with
  | nil => simp
  | row _ _ _ _ _ hn => exact hn

theorem Vec.slice {T s : Nat} {v : Value} {n : Nat} {xs : List Value} {G : Heap} (h : Vec T s v n xs G) : ∃ a c, v = .slice a n c := by
  cases h with
  | nil => exact ⟨_, _, rfl⟩
  | row _ _ _ _ _ _ _ _ _ => exact ⟨_, _, rfl⟩

/-- What is readable as m elements of s cells each. -/
inductive Src (w : World) (s : Nat) : Value → Nat → List Value → Prop
  | row (b off m c : Nat) (xs : List Value) (hn : xs.length = m * s) (hr : Row w b off xs) : Src w s (.slice (some ⟨b, off, none⟩) m c) m xs

theorem Vec.owns {T s : Nat} {v : Value} {n : Nat} {xs : List Value} {G : Heap} (h : Vec T s v n xs G) {w0 w : World} {ms : List Nat} {R : Heap} (hw : St w0 ms (G ++ R) w) : w.ownsRow 0 T s v n xs := by
  cases h with
  | nil => exact ⟨by simp, .inl ⟨rfl, rfl⟩⟩
  | row b n cap xs sp hn hc hm hle =>
    refine ⟨hn, .inr ⟨b, cap, (xs ++ sp).toArray, rfl, Nat.zero_le _, hw.own_blk (by simp), hle, hm, by simpa using hc, ?_⟩⟩
    simp [← hn]

theorem Vec.of_owns {T s : Nat} {v : Value} {n : Nat} {xs : List Value} {w : World} (h : w.ownsRow 0 T s v n xs) :
    ∃ G, Vec T s v n xs G ∧ (∀ x ∈ G, w.heap[x.1]? = some x.2) ∧ (∀ x ∈ G, v.ownBlock = some x.1) ∧ (G.map (·.1)).Nodup := by
  obtain ⟨h1, h2⟩ := h
  rcases h2 with ⟨rfl, rfl⟩ | ⟨b, cap, cur, rfl, _, hb, hle, hm, hc, ht⟩
  · have : xs = [] := List.eq_nil_of_length_eq_zero (by simpa using h1)
    subst this
    exact ⟨[], .nil, by simp, by simp, by simp⟩
  · refine ⟨_, .row b n cap xs (cur.toList.drop (n * s)) h1 ?_ hm hle, ?_, ?_, by simp⟩
    · rw [← ht, List.take_append_drop]; simpa using hc
    · intro x hx
      simp only [List.mem_singleton] at hx
      subst hx
      rw [hb]
      simp only [blk]
      congr 2
      rw [← ht, List.take_append_drop]
    · intro x hx
      simp only [List.mem_singleton] at hx
      subst hx; rfl

def appP (P : Program) (t : TypeId) : Option (Nat × Nat × Nat) :=
  match P.underlying t with
  | some (.slice el) => match P.info? el with
    | some i => match i.zero with
      | some z => if z.cells.size = i.size ∧ 0 < i.size then some (el, i.size, i.bytes) else none
      | none => none
    | none => none
  | _ => none

theorem append_block (w : World) (t ty el : TypeId) (i : TypeInfo) (z : Value) (hu : P.underlying t = some (.slice el)) (hi : P.info? el = some i) (hz : i.zero = some z) (v : Value) (n : Nat) (xs : List Value)
    (hown : w.ownsRow 0 el i.size v n xs) (b off m c : Nat) (ys : List Value) (hn : ys.length = m * i.size) (hr : ∀ j u, ys[j]? = some u → w.cell? ((⟨b, off, none⟩ : Addr).add j) = some u) (h1 : ∀ u ∈ ys, u.oneCell' = true)
    (h63 : n + m ≤ maxLen) (hbytes : (n + m) * i.bytes ≤ 140737488355328) {v' : Value} {w' : World}
    (hrun : (Builtin.append_ #[t, t] ty #[v, .slice (some ⟨b, off, none⟩) m c]).run P w = .ok v' w') :
    v'.ownBlock = v.ownBlock ∨ v'.ownBlock = some w.heap.size := by
  have hsm : n + m ≤ 9223372036854775807 := by unfold maxLen at h63; omega
  obtain ⟨hx, h2⟩ := hown
  rcases h2 with ⟨rfl, rfl⟩ | ⟨g, cap, cur, rfl, _, hg, hle, hm, hcs, htake⟩
  · by_cases hm0 : m = 0
    · subst hm0
      have hys : ys = [] := List.eq_nil_of_length_eq_zero (by simpa using hn)
      subst hys
      have hr0 : (Builtin.append_ #[t, t] ty #[.slice none 0 0, .slice (some ⟨b, off, none⟩) 0 c]).run P w = .ok (.slice none 0 0) w := by
        simp [Builtin.append_, run_underlying hu, sizeOf, typeInfo, hi, Builtin.lenOf, Builtin.firstCells, loadCells, loadCellsFrom]
      rw [hr0] at hrun
      cases hrun
      exact .inl rfl
    · have h3 := run_append_nil (P := P) w t ty el i z hu hi hz ⟨b, off, none⟩ m c ys hn hr (by omega) (by omega) (by simp only [Nat.zero_add] at hbytes; omega)
      rw [h3] at hrun
      cases hrun
      exact .inr rfl
  · by_cases hroom : n + m ≤ cap
    · have hfit : n * i.size + ys.length ≤ cur.size := by rw [hn, hcs, ← Nat.add_mul]; exact Nat.mul_le_mul_right _ hroom
      have h3 := run_append_room (P := P) w t ty el i hu hi g n cap cur hg ⟨b, off, none⟩ m c ys hn hr h1 hroom hfit
      rw [h3] at hrun
      cases hrun
      exact .inl rfl
    · have holds : ∀ j u, xs[j]? = some u → w.cell? ((⟨g, 0, none⟩ : Addr).add j) = some u := World.ownsRow.cells ⟨hx, .inr ⟨g, cap, cur, rfl, Nat.zero_le _, hg, hle, hm, hcs, htake⟩⟩ rfl
      have h3 := run_append_grow (P := P) w t ty el i z hu hi hz ⟨g, 0, none⟩ n cap xs hx holds ⟨b, off, none⟩ m c ys hn hr (by omega) (by omega) (growslice_fits (by omega) hbytes)
      rw [h3] at hrun
      cases hrun
      exact .inr rfl

theorem x_append {t : TypeId} {x y : Operand} {T s by_ : Nat} {v u : Value} {n m : Nat} {xs ys : List Value} {G A R : Heap} {ts : Array TypeId}
    (hx : ev e x = v) (hy : ev e y = u) (hts : ts = #[t, t]) (hp : appP Γ.P t = some (T, s, by_)) (hv : Vec T s v n xs G)
    (hs : ∀ w, St Γ.w0 Γ.ms (A ++ (G ++ R)) w → Src w s u m ys) (h1 : ones ys = true) (hlen : n + m ≤ 140737488355328) (hb : (n + m) * by_ ≤ 140737488355328) :
    Op1 Γ ⟨d, .call ⟨.builtin .append, #[x, y], ts⟩, ty, pos, af, g⟩ e (A ++ (G ++ R)) (fun v' H' => ∃ G', Vec T s v' (n + m) (xs ++ ys) G' ∧ (v' = .slice none 0 0 → n = 0 ∧ m = 0) ∧ H' = G' ++ (A ++ R)) := by
  intro w hw
  subst hts hx hy
  unfold appP at hp
  split at hp <;> try cases hp
  rename_i el hu
  split at hp <;> try cases hp
  rename_i i hi
  split at hp <;> try cases hp
  rename_i z hz
  split at hp <;> try cases hp
  rename_i hzs
  obtain ⟨hz1, hz2⟩ := hzs
  have hw2 : St Γ.w0 Γ.ms (G ++ (A ++ R)) w := hw.perm (by
    rw [← List.append_assoc, ← List.append_assoc]
    exact List.Perm.append_right R List.perm_append_comm)
  have hs' := hs w hw
  generalize hue : ev e y = u at hs'
  generalize hve : ev e x = v at hv
  cases hs' with
  | row b off m c ys hn hr =>
    have hown := hv.owns hw2
    obtain ⟨v', w', hrun, hown', hgr, hnil⟩ := run_append_own (P := Γ.P) w 0 t ty T i z i.size i.bytes hu hi hz rfl rfl hz1 hz2 v n xs hown ⟨b, off, none⟩ m c ys hn hr.add (by simpa [ones] using h1) (by unfold maxLen; omega) (by omega) (Nat.zero_le _)
    obtain ⟨G', hV', hG', hGo, hGn⟩ := Vec.of_owns hown'
    have hnd := hw2.nodup
    rw [List.map_append, List.nodup_append] at hnd
    obtain ⟨hnG, hnR, hGR⟩ := hnd
    have hvb : ∀ k, v.ownBlock = some k → ∃ o, (k, o) ∈ G := by
      intro k hk
      cases hv with
      | nil => cases hk
      | row b2 _ cap2 _ sp2 _ _ _ _ =>
        simp only [Value.ownBlock, Option.some.injEq] at hk
        subst hk
        exact ⟨blk (xs ++ sp2) T, by simp⟩
    have hkeep : ∀ k, k < w.heap.size → (∀ o, (k, o) ∉ G) → w'.heap[k]? = w.heap[k]? := fun k hk hno => hgr.block k hk (fun he => by
      obtain ⟨o, ho⟩ := hvb k he.symm
      exact hno o ho)
    -- the new row is the old one's block, or a new block
    have hnew : ∀ x ∈ G', (∃ o, (x.1, o) ∈ G) ∨ w.heap.size ≤ x.1 := by
      intro x hx
      have h3 := hGo x hx
      have h4 := hG' x hx
      by_cases hlt : x.1 < w.heap.size
      · by_cases hno : ∃ o, (x.1, o) ∈ G
        · exact .inl hno
        · exfalso
          rcases append_block (P := Γ.P) w t ty T i z hu hi hz v n xs hown b off m c ys hn hr.add (by simpa [ones] using h1) (by unfold maxLen; omega) (by omega) hrun with hc | hc
          · rw [hc] at h3
            exact hno (hvb _ h3)
          · rw [hc] at h3; simp only [Option.some.injEq] at h3; omega
      · exact .inr (by omega)
    have hA : St Γ.w0 Γ.ms (G' ++ (A ++ R)) w' := by
      refine ⟨hgr.os.trans hw2.os, hgr.tape.trans hw2.tape, hgr.output.trans hw2.output, Nat.le_trans hw2.size hgr.size, ?_, ?_, ?_, ?_⟩
      · intro k hk hm2
        have hsz := hw2.size
        rw [hkeep k (by omega) ?_]
        · exact hw2.block k hk hm2
        · intro o ho
          rcases hw2.own (k, o) (by simp [ho]) with h7 | h7
          · exact hm2 h7
          · simp at h7; omega
      · rw [List.map_append, List.nodup_append]
        refine ⟨hGn, hnR, ?_⟩
        intro a ha b2 hb2 hab
        obtain ⟨x, hx, rfl⟩ := List.mem_map.1 ha
        obtain ⟨y2, hy2, rfl⟩ := List.mem_map.1 hb2
        rcases hnew x hx with ⟨o, ho⟩ | h8
        · exact hGR _ (List.mem_map.2 ⟨_, ho, rfl⟩) _ (List.mem_map.2 ⟨y2, hy2, rfl⟩) hab
        · have := hw2.lt (x := y2) (by simp only [List.mem_append] at hy2 ⊢; exact .inr hy2)
          omega
      · intro x hx
        rcases List.mem_append.1 hx with hx | hx
        · rcases hnew x hx with ⟨o, ho⟩ | h8
          · exact hw2.own (x.1, o) (by simp [ho])
          · have := hw2.size; exact .inr (by omega)
        · exact hw2.own x (List.mem_append.2 (.inr hx))
      · intro x hx
        rcases List.mem_append.1 hx with hx | hx
        · exact hG' x hx
        · rw [hkeep x.1 (hw2.lt (List.mem_append.2 (.inr hx))) ?_]
          · exact hw2.holds x (List.mem_append.2 (.inr hx))
          · intro o ho
            exact hGR _ (List.mem_map.2 ⟨_, ho, rfl⟩) _ (List.mem_map.2 ⟨x, hx, rfl⟩) rfl
    refine opW_run (v := v') (w' := w') ?_ ⟨_, hA, G', hV', fun h9 => ?_, rfl⟩
    · simp only [execOp, resolve, Sem.run_bind, Sem.run_pure, Result.andThen_ok, invoke, builtin, List.map_toArray, List.map_cons, List.map_nil, hue, hve, hrun]
    · obtain ⟨h10, h11⟩ := hnil.1 h9
      subst h10
      cases hv
      exact ⟨rfl, h11⟩

end
end Go.VV
namespace Go.VV
open Go Go.RowKit

section
variable {P : Program} {Γ : Ctx} {k : Kont} {e : Env} {H F : Heap} {ops rest : List Oper} {d : Option Nat} {op : Op} {t : TypeId} {pos : String} {af : Array Edge} {g : Option (Nat × Bool)}
  {need : List Nat} {pl : Plan} {i : Nat}

theorem l_x {K : Value → Heap → Prop} (hop : Op1 Γ ⟨d, op, t, pos, af, g⟩ e H K) (hg : gdB ops e ⟨d, op, t, pos, af, g⟩ = true) (hd : dstOk Γ.n d = true)
    (hk : ∀ v H', K v H' → L1 Γ ops rest k (e.put d v) H') : L1 Γ ops (⟨d, op, t, pos, af, g⟩ :: rest) k e H := l_op hg hd hop hk

theorem l_l {v : Value} (hl : light Γ.P e ⟨d, op, t, pos, af, g⟩ = some v) (hg : gdB ops e ⟨d, op, t, pos, af, g⟩ = true) (hd : dstOk Γ.n d = true)
    (h : L1 Γ ops rest k (e.put d v) H) : L1 Γ ops (⟨d, op, t, pos, af, g⟩ :: rest) k e H := l_light hl hg hd h

theorem l_b {b : Bool} (hl : light Γ.P e ⟨d, op, t, pos, af, g⟩ = some (.bool b)) (hg : gdB ops e ⟨d, op, t, pos, af, g⟩ = true) (hd : dstOk Γ.n d = true)
    (ht : b = true → L1 Γ ops rest k (e.put d (.bool true)) H) (hf : b = false → L1 Γ ops rest k (e.put d (.bool false)) H) : L1 Γ ops (⟨d, op, t, pos, af, g⟩ :: rest) k e H := l_bool hl hg hd ht hf

theorem l_p (hg : gdB ops e ⟨d, op, t, pos, af, g⟩ = false) (hd : dstOk Γ.n d = true)
    (h : L1 Γ ops rest k (e.put d undef) H) : L1 Γ ops (⟨d, op, t, pos, af, g⟩ :: rest) k e H := l_pass hg hd h

/-- One that is carried out in its place; where it must, it leaves the entries F. -/
theorem d_x {K : Value → Heap → Prop} (ho : ops[i]? = some ⟨d, op, t, pos, af, g⟩) (hop : Op1 Γ ⟨d, op, t, pos, af, g⟩ e H K) (hg : gdB ops e ⟨d, op, t, pos, af, g⟩ = true) (hd : dstOk Γ.n d = true)
    (hn : need.any (Nat.beq i) = true → ∀ v H', K v H' → ∀ x ∈ F, x ∈ H')
    (hk : ∀ v H', K v H' → L2 Γ ops (Stood Γ F) need pl k (e.put d v) H') : L2 Γ ops (Stood Γ F) need (.step false i pl) k e H :=
  d_op ho hg hd hop (fun hx v H' _ hK hw => ⟨H', hw, hn hx v H' hK⟩) hk

/-- One that only computes, in its place. -/
theorem d_xl {v : Value} (ho : ops[i]? = some ⟨d, op, t, pos, af, g⟩) (hl : light Γ.P e ⟨d, op, t, pos, af, g⟩ = some v) (hg : gdB ops e ⟨d, op, t, pos, af, g⟩ = true) (hd : dstOk Γ.n d = true)
    (hn : need.any (Nat.beq i) = true → ∀ x ∈ F, x ∈ H)
    (hk : L2 Γ ops (Stood Γ F) need pl k (e.put d v) H) : L2 Γ ops (Stood Γ F) need (.step false i pl) k e H :=
  d_x (K := fun u H' => u = v ∧ H' = H) ho (fun _ hw => opW_light hl ⟨H, hw, rfl, rfl⟩) hg hd (by rintro hx _ _ ⟨rfl, rfl⟩; exact hn hx) (by rintro _ _ ⟨rfl, rfl⟩; exact hk)

theorem s_own {b : Nat} {l : List Value} {T : TypeId} {fr : Nat × Nat} {off : Nat} {v : Value} (hm : (b, Obj.cells l.toArray T fr) ∈ F) (hv : l[off]? = some v) :
    ∀ w, Stood Γ F w → w.cell? ⟨b, off, none⟩ = some v := fun w ⟨_, hw, hF⟩ => at_own (hF _ hm) hv w hw
theorem s_old {b off : Nat} {v : Value} (hc : Γ.w0.cell? ⟨b, off, none⟩ = some v) (hb : b ∉ Γ.ms) : ∀ w, Stood Γ F w → w.cell? ⟨b, off, none⟩ = some v :=
  fun w ⟨_, hw, _⟩ => at_old hc hb w hw
theorem srow_own {b : Nat} {l : List Value} {T : TypeId} {fr : Nat × Nat} (hm : (b, Obj.cells l.toArray T fr) ∈ F) : ∀ w, Stood Γ F w → Row w b 0 l := fun w ⟨_, hw, hF⟩ => row_own (hF _ hm) w hw
theorem srow_old {b off : Nat} {l : List Value} (hr : Row Γ.w0 b off l) (hb : b ∉ Γ.ms) : ∀ w, Stood Γ F w → Row w b off l := fun w ⟨_, hw, _⟩ => row_old hr hb w hw

theorem d_load {T : TypeId} {x : Operand} {b off : Nat} {v : Value} (ho : ops[i]? = some ⟨d, .load T x, t, pos, af, g⟩) (hx : vnf (ev e x) = some (.pointer (some ⟨b, off, none⟩))) (hs : scalarB Γ.P T = true)
    (hc : ∀ w, Stood Γ F w → w.cell? ⟨b, off, none⟩ = some v)
    (hg : gdB ops e ⟨d, .load T x, t, pos, af, g⟩ = true) (hd : dstOk Γ.n d = true)
    (h : L2 Γ ops (Stood Γ F) need pl k (e.put d v) H) : L2 Γ ops (Stood Γ F) need (.step true i pl) k e H :=
  d_yield ho hg hd (fun w hS => run_load hx hs (hc w (hS rfl))) h

theorem d_loadA {T : TypeId} {x : Operand} {b off : Nat} {l : List Value} (ho : ops[i]? = some ⟨d, .load T x, t, pos, af, g⟩) (hx : vnf (ev e x) = some (.pointer (some ⟨b, off, none⟩))) (hs : aggB Γ.P T = true) (hn : sizeP Γ.P T = some l.length)
    (hc : ∀ w, Stood Γ F w → Row w b off l)
    (hg : gdB ops e ⟨d, .load T x, t, pos, af, g⟩ = true) (hd : dstOk Γ.n d = true)
    (h : L2 Γ ops (Stood Γ F) need pl k (e.put d (.agg l.toArray)) H) : L2 Γ ops (Stood Γ F) need (.step true i pl) k e H :=
  d_yield ho hg hd (fun w hS => run_loadA hx hs hn (hc w (hS rfl))) h

/-- A call that turns nothing that there was. -/
theorem x_call {f : Nat} {l : List Operand} {ts : Array TypeId} {vs : List Value} (hc : callable Γ.P f = true) (hv : evs e l = some vs) {R : Value → Heap → Prop}
    (hf : ∀ w, St Γ.w0 Γ.ms H w → Does Γ.P f vs w [] R) :
    Op1 Γ ⟨d, .call ⟨.value (.func f), l.toArray, ts⟩, t, pos, af, g⟩ e H (fun v H2 => ∃ H', R v H' ∧ H2 = H' ++ H) :=
  fun w hw => opW_call (F := []) (G := H) [] hc hv hw (by simp) (hf w hw) fun _ _ _ h1 _ h2 => ⟨_, h2, _, h1, rfl⟩

/-- A call that turns the blocks 'ms2', which stand among the entries 'A'. -/
theorem x_callF {A G : Heap} {f : Nat} {l : List Operand} {ts : Array TypeId} {vs : List Value} (ms2 : List Nat) (hc : callable Γ.P f = true) (hv : evs e l = some vs) {R : Value → Heap → Prop}
    (hms : ∀ b ∈ ms2, ∃ o, (b, o) ∈ A) (hf : ∀ w, St Γ.w0 Γ.ms (A ++ G) w → Does Γ.P f vs w ms2 R) :
    Op1 Γ ⟨d, .call ⟨.value (.func f), l.toArray, ts⟩, t, pos, af, g⟩ e (A ++ G) (fun v H2 => ∃ H', R v H' ∧ H2 = H' ++ G) :=
  fun w hw => opW_call (F := A) (G := G) ms2 hc hv hw hms (hf w hw) fun _ _ _ h1 _ h2 => ⟨_, h2, _, h1, rfl⟩

/-- copy(dst, src), elements of one cell. -/
theorem x_copy {x y : Operand} {ts : Array TypeId} {tx ty el : TypeId} {b off dl dc m : Nat} {u : Value} {l ys : List Value} {T : TypeId} (i : Nat)
    (hx : vnf (ev e x) = some (.slice (some ⟨b, off, none⟩) dl dc)) (hy : ev e y = u) (hts : ts = #[tx, ty]) (hu : slcP Γ.P tx = some (el, 1))
    (hi : H[i]? = some (b, blk l T)) (hs : ∀ w, St Γ.w0 Γ.ms H w → Src w 1 u m ys) (h1 : ones ys = true) (hl : off + min m dl ≤ l.length) :
    Op1 Γ ⟨d, .call ⟨.builtin .copy, #[x, y], ts⟩, t, pos, af, g⟩ e H (fun v H' => v = .int .i64 (min m dl : Nat) ∧ H' = H.set i (b, blk (putL l off (ys.take (min m dl))) T)) := by
  intro w hw
  subst hts hy
  obtain ⟨g1, g2⟩ := slcP_spec hu
  have hx := vnf_eq hx
  have hg : w.heap[b]? = some (blk l T) := hw.own_blk (List.mem_of_getElem? hi)
  have hs' := hs w hw
  generalize hue : ev e y = u at hs'
  cases hs' with
  | row b2 off2 m c ys hn hr =>
    have hlen : (ys.take (min m dl)).length = min m dl := by rw [List.length_take]; omega
    have hrun := run_copy_row (P := Γ.P) w tx ty t el b off dl dc ⟨b2, off2, none⟩ m c l.toArray T (ys.take (min m dl)) g1 g2 hg (by rw [hlen])
      (fun j v hv => hr.add j v (by
        rw [List.getElem?_take] at hv
        split at hv
        · exact hv
        · cases hv)) (by rw [hlen]; simpa using hl) (fun v hv => by
        have := List.mem_of_mem_take hv
        exact List.all_eq_true.1 h1 v this)
    rw [hlen] at hrun
    refine opW_run (v := .int .i64 (min m dl : Nat)) (w' := w.setRow b (putL l off (ys.take (min m dl))).toArray) ?_ ⟨_, ?_, rfl, rfl⟩
    · have e1 : putL l off (ys.take (min m dl)) = l.take off ++ ys.take (min m dl) ++ l.drop (off + min m dl) := by rw [putL, hlen]
      rw [e1]
      simp only [execOp, resolve, Sem.run_bind, Sem.run_pure, Result.andThen_ok, invoke, builtin, List.map_toArray, List.map_cons, List.map_nil, hx, hue, hrun]
      rfl
    · exact hw.setAt hi rfl rfl rfl (by simp [World.setRow]) (fun k hk => setRow_other w b k _ hk) (setRow_heap w b _ _ T _ hg)

theorem rets_v {s : Nat} {w : World} {v : Value} (h : vnf (e s) = some v) : Rets P [.tmp s] e w v := rets_one (vnf_eq h)
theorem rets_v2 {s u : Nat} {w : World} {v1 v2 : Value} (h1 : vnf (e s) = some v1) (h2 : vnf (e u) = some v2) : Rets P [.tmp s, .tmp u] e w (.tuple #[v1, v2]) := rets_two (vnf_eq h1) (vnf_eq h2)
theorem rets_v3 {s u r : Nat} {w : World} {v1 v2 v3 : Value} (h1 : vnf (e s) = some v1) (h2 : vnf (e u) = some v2) (h3 : vnf (e r) = some v3) : Rets P [.tmp s, .tmp u, .tmp r] e w (.tuple #[v1, v2, v3]) := rets_three (vnf_eq h1) (vnf_eq h2) (vnf_eq h3)

theorem rets_cell {a b : Nat} {T : TypeId} {l : List Value} {w : World} (h : vnf (e a) = some (.pointer (some ⟨b, 0, none⟩))) (hs : aggB P T = true) (hn : sizeP P T = some l.length) (hr : Row w b 0 l) :
    Rets P [.cell a T] e w (.agg l.toArray) := by
  have h := vnf_eq h
  have hl := run_loadCells_list (P := P) w ⟨b, 0, none⟩ l hr.add
  simp [Rets, resOf, h, asAddr, loadVar, Sem.run_bind, run_isAgg_a hs, run_sizeOf hn, hl]
theorem rets_cell2 {a b s : Nat} {T : TypeId} {l : List Value} {v : Value} {w : World} (h : vnf (e a) = some (.pointer (some ⟨b, 0, none⟩))) (hs : aggB P T = true) (hn : sizeP P T = some l.length) (hr : Row w b 0 l) (h2 : vnf (e s) = some v) :
    Rets P [.cell a T, .tmp s] e w (.tuple #[.agg l.toArray, v]) := by
  have h := vnf_eq h
  have hl := run_loadCells_list (P := P) w ⟨b, 0, none⟩ l hr.add
  have h2 := vnf_eq h2
  simp [Rets, resOf, h, h2, asAddr, loadVar, Sem.run_bind, run_isAgg_a hs, run_sizeOf hn, hl]

/-- The end of a body, entries that are no longer wanted dropped. -/
theorem l_end {Γ : Ctx} {rs : List ResultVar} {R : Value → Heap → Prop} {H' : Heap} {v : Value} (hr : ∀ w, St Γ.w0 Γ.ms H w → Rets Γ.P rs e w v)
    (hh : H'.Sublist H) (h : R v H') : Ends Γ rs R e H := ends_of hr (fun _ hw => hw.sub hh) h
theorem l_end0 {Γ : Ctx} {rs : List ResultVar} {R : Value → Heap → Prop} {v : Value} (hr : ∀ w, St Γ.w0 Γ.ms H w → Rets Γ.P rs e w v) (h : R v []) : Ends Γ rs R e H := l_end hr (List.nil_sublist _) h
end
end Go.VV
namespace Go.VV
open Go Go.RowKit
section
variable {ops : Array Oper} {md : Region.Mode} {need : Nat → Bool}
def ancOf (md : Region.Mode) (anc : List Nat) (l : List Edge) : Nat := l.foldr (fun e m => bif Region.binds md e then Nat.lor (Nat.lor m (1 <<< e.on)) (anc.getD e.on 0) else m) 0
def ancOk (md : Region.Mode) (ops : Array Oper) (anc : List Nat) : Bool :=
  (List.range ops.size).all fun j => match ops[j]? with
    | some oj => Nat.beq (anc.getD j 0) (ancOf md anc oj.after.toList) && oj.after.toList.all fun e => !Region.binds md e || Nat.blt e.on j
    | none => true
theorem ancOf_bit {anc : List Nat} {i : Nat} : ∀ {l : List Edge}, (ancOf md anc l).testBit i = true → ∃ e ∈ l, Region.binds md e = true ∧ (e.on = i ∨ (anc.getD e.on 0).testBit i = true)
  | [], h => by simp [ancOf] at h
  | e :: l, h => by
    have ih := ancOf_bit (anc := anc) (i := i) (l := l)
    simp only [ancOf, List.foldr_cons] at h ih
    cases hb : Region.binds md e
    · rw [hb, cond_false] at h
      obtain ⟨x, hx, h2⟩ := ih h
      exact ⟨x, .tail _ hx, h2⟩
    · rw [hb, cond_true] at h
      have h3 : (List.foldr (fun e m => bif Region.binds md e then Nat.lor (Nat.lor m (1 <<< e.on)) (anc.getD e.on 0) else m) 0 l ||| (1 <<< e.on) ||| (anc.getD e.on 0)).testBit i = true := h
      rw [Nat.testBit_or, Nat.testBit_or, Bool.or_eq_true, Bool.or_eq_true] at h3
      rcases h3 with (h3 | h3) | h3
      · obtain ⟨x, hx, h2⟩ := ih h3
        exact ⟨x, .tail _ hx, h2⟩
      · refine ⟨e, .head _, hb, .inl ?_⟩
        rw [Nat.testBit_shiftLeft] at h3
        simp only [Bool.and_eq_true, decide_eq_true_eq] at h3
        have h4 : i - e.on = 0 := by
          rcases Nat.eq_zero_or_pos (i - e.on) with h5 | h5
          · exact h5
          · have := h3.2
            rw [Nat.testBit_one_eq_true_iff_self_eq_zero] at this
            exact this
        omega
      · exact ⟨e, .head _, hb, .inr h3⟩
theorem waits_mono {i : Nat} : ∀ {f g j : Nat}, f ≤ g → waits md ops i f j = true → waits md ops i g j = true
  | 0, _, _, _, h => by simp [waits] at h
  | f + 1, 0, _, hle, _ => by omega
  | f + 1, g + 1, j, hle, h => by
    simp only [waits] at h ⊢
    split at h
    · rename_i oj hoj
      obtain ⟨e, he, hb⟩ := Array.any_eq_true'.1 h
      refine Array.any_eq_true'.2 ⟨e, he, ?_⟩
      simp only [Bool.and_eq_true, Bool.or_eq_true] at hb ⊢
      exact ⟨hb.1, hb.2.imp id fun h2 => waits_mono (by omega) h2⟩
    · cases h
theorem waits_anc {anc : List Nat} (hA : ancOk md ops anc = true) {i : Nat} : ∀ (n j : Nat), j < n → j < ops.size → (anc.getD j 0).testBit i = true → waits md ops i (j + 1) j = true
  | 0, _, h, _, _ => by omega
  | n + 1, j, hj, hs, hb => by
    have h1 := List.all_eq_true.1 hA j (List.mem_range.2 hs)
    have hoj : ops[j]? = some ops[j] := by simp [hs]
    rw [hoj] at h1
    simp only [Bool.and_eq_true] at h1
    obtain ⟨h2, h3⟩ := h1
    rw [Nat.eq_of_beq_eq_true h2] at hb
    obtain ⟨e, he, hbe, hor⟩ := ancOf_bit hb
    have h4 := List.all_eq_true.1 h3 e he
    rw [hbe, Bool.not_true, Bool.false_or] at h4
    have hlt : e.on < j := by simpa [Nat.blt_eq] using h4
    simp only [waits, hoj]
    refine Array.any_eq_true'.2 ⟨e, by simpa using he, ?_⟩
    rw [hbe, Bool.true_and, Bool.or_eq_true]
    rcases hor with rfl | hor
    · exact .inl (by simp)
    · exact .inr (waits_mono (by omega) (waits_anc hA n e.on (by omega) (by omega) hor))
def keepF (ops : Array Oper) (need : Nat → Bool) (anc : List Nat) (listed : Array Bool) (i : Nat) : Bool :=
  (List.range ops.size).all fun j => Nat.beq j i || need j || (anc.getD j 0).testBit i || listed.getD j true
theorem keepF_ok {anc : List Nat} (hA : ancOk md ops anc = true) {listed : Array Bool} {i : Nat} (h : keepF ops need anc listed i = true) : keepB md ops need listed i = true := by
  refine List.all_eq_true.2 fun j hj => ?_
  have h1 := List.all_eq_true.1 h j hj
  have hs := List.mem_range.1 hj
  simp only [Bool.or_eq_true] at h1 ⊢
  rcases h1 with ((h1 | h1) | h1) | h1
  · exact .inl (.inl (.inl (by rw [Nat.eq_of_beq_eq_true h1]; simp)))
  · exact .inr h1
  · exact .inl (.inr (waits_mono (by omega) (waits_anc hA (j + 1) j (by omega) hs h1)))
  · exact .inl (.inl (.inr h1))
def planF (md : Region.Mode) (ops : Array Oper) (need : Nat → Bool) (anc : List Nat) : Plan → Nat → Bool → Array Bool → Bool → Bool
  | .done, _, top, listed, _ => top && (Region.ready md ops listed).isEmpty
  | .step true i r, fuel + 1, top, listed, s => top && (!(looksAt ops i) || (s && keepF ops need anc listed i)) && (Region.ready md ops listed).contains i && Region.free md ops listed i && planF md ops need anc r fuel true (listed.setIfInBounds i true) s
  | .step false i r, fuel + 1, top, listed, s => top && (Region.ready md ops listed == [i]) && planF md ops need anc r fuel true (listed.setIfInBounds i true) (s && need i)
  | .fork i r o, fuel + 1, top, listed, s => (!top || Region.ready md ops listed == i :: o.heads) && (Region.ready md ops listed).contains i && planF md ops need anc r fuel true (listed.setIfInBounds i true) (s && need i) && planF md ops need anc o (fuel + 1) false listed s
  | .stop, _, top, _, _ => !top
  | .step _ _ _, 0, _, _, _ => false
  | .fork _ _ _, 0, _, _, _ => false
theorem planF_ok {anc : List Nat} (hA : ancOk md ops anc = true) : ∀ (pl : Plan) (fuel : Nat) (top : Bool) (listed : Array Bool) (s : Bool), planF md ops need anc pl fuel top listed s = true → planB md ops need pl fuel top listed s = true
  | .done, _, _, _, _, h => h
  | .stop, _, _, _, _, h => h
  | .step true i r, fuel + 1, top, listed, s, h => by
    simp only [planF, planB, Bool.and_eq_true, Bool.or_eq_true] at h ⊢
    exact ⟨⟨⟨⟨h.1.1.1.1, h.1.1.1.2.imp id fun h2 => ⟨h2.1, keepF_ok hA h2.2⟩⟩, h.1.1.2⟩, h.1.2⟩, planF_ok hA r fuel _ _ _ h.2⟩
  | .step false i r, fuel + 1, top, listed, s, h => by
    simp only [planF, planB, Bool.and_eq_true] at h ⊢
    exact ⟨h.1, planF_ok hA r fuel _ _ _ h.2⟩
  | .fork i r o, fuel + 1, top, listed, s, h => by
    simp only [planF, planB, Bool.and_eq_true] at h ⊢
    exact ⟨⟨h.1.1, planF_ok hA r fuel _ _ _ h.1.2⟩, planF_ok hA o (fuel + 1) _ _ _ h.2⟩
  | .step true _ _, 0, _, _, _, h => by simp [planF] at h
  | .step false _ _, 0, _, _, _, h => by simp [planF] at h
  | .fork _ _ _, 0, _, _, _, h => by simp [planF] at h
end
section
variable {Γ : Ctx} {k : Kont} {e : Env} {H : Heap}
theorem c_drawF {id : Nat} {l : List Oper} (F : Heap) (need anc : List Nat) (pl : Plan) (hm : Γ.P.follows .mixedOrders = true) (hs : plainOps l.toArray = true) (hA : ancOk .any l.toArray anc = true)
    (hB : planF .any l.toArray (fun i => need.any (Nat.beq i)) anc pl l.toArray.size true (Array.replicate l.toArray.size false) true = true)
    (hF : ∀ x ∈ F, x ∈ H) (h : L2 Γ l (Stood Γ F) need pl k e H) : C Γ (.region id l.toArray true) k e H :=
  c_draw F need pl hm hs (planF_ok hA pl _ _ _ _ hB) hF h
end
end Go.VV
namespace Go.VV
open Go Go.RowKit

/-- A list, its spine written out. -/
def spine {α : Type} : List α → Option (List α)
  | [] => some []
  | x :: r => match spine r with
    | some r' => some (x :: r')
    | none => none
theorem spine_eq {α : Type} : ∀ {l l' : List α}, spine l = some l' → l = l'
  | [], _, h => by cases h; rfl
  | x :: r, l', h => by
    simp only [spine] at h
    split at h
    · rename_i r' hr
      cases h
      rw [spine_eq hr]
    · cases h

def layL (off : Nat) : List Value → Nat → List Value → List Value
  | [], _, l => l
  | v :: vs, j, l => layL off vs (j + 1) (l.set (off + j) v)

def fillL (place : Nat → Option (Nat × Nat)) (l : List Value) : List (Nat × Value) → Option (List Value)
  | [] => spine l
  | (i, v) :: rest =>
    match place i, cellsF v with
    | some (off, size), some vs => bif Nat.beq vs.length size && Nat.ble (off + vs.length) l.length then fillL place (layL off vs 0 l) rest else none
    | _, _ => none

theorem lay_eq (off : Nat) : ∀ (vs : List Value) (j : Nat) (l : List Value),
    (layL off vs j l).toArray = (vs.zipIdx j).foldl (fun (cs : Array Value) (c : Value × Nat) => cs.setIfInBounds (off + c.2) c.1) l.toArray
  | [], _, _ => rfl
  | v :: vs, j, l => by
    simp only [layL, List.zipIdx_cons, List.foldl_cons]
    rw [lay_eq off vs (j + 1) _]
    congr 1
    simp

theorem fill_of_fillL {place : Nat → Option (Nat × Nat)} : ∀ {ps : List (Nat × Value)} {l l' : List Value}, fillL place l ps = some l' → Instr.fill place l.toArray ps = some l'.toArray
  | [], l, l', h => by
    simp only [fillL] at h
    rw [spine_eq h]
    rfl
  | (i, v) :: rest, l, l', h => by
    simp only [fillL] at h
    split at h
    · rename_i off size vs hp hv
      have hc := cellsF_eq hv
      by_cases hb : (Nat.beq vs.length size && Nat.ble (off + vs.length) l.length) = true
      · rw [hb, cond_true] at h
        simp only [Bool.and_eq_true] at hb
        have h1 := Nat.eq_of_beq_eq_true hb.1
        have h2 := Nat.le_of_ble_eq_true hb.2
        have h3 := fill_of_fillL h
        simp only [Instr.fill, hp, hc, List.size_toArray]
        rw [if_neg (by simp [h1]; omega)]
        rw [← h3]
        congr 1
        rw [lay_eq]
        simp
      · simp only [Bool.not_eq_true] at hb
        rw [hb, cond_false] at h
        cases h
    · cases h

section
variable {Γ : Ctx} {e : Env} {H : Heap} {d : Option Nat} {ty : TypeId} {pos : String} {af : Array Edge} {g : Option (Nat × Bool)}

def partsF (e : Env) : List (Nat × Operand) → Option (List (Nat × Value))
  | [] => some []
  | (i, x) :: r => match vnf (ev e x), partsF e r with
    | some v, some vs => some ((i, v) :: vs)
    | _, _ => none
theorem partsF_eq {e : Env} : ∀ {l : List (Nat × Operand)} {vs : List (Nat × Value)}, partsF e l = some vs → l.map (fun p => (p.1, ev e p.2)) = vs
  | [], _, h => by cases h; rfl
  | (i, x) :: r, vs, h => by
    simp only [partsF] at h
    split at h
    · rename_i v us h1 h2
      cases h
      simp only [List.map_cons, vnf_eq h1, partsF_eq h2]
    · cases h

def repL (n : Nat) (z : List Value) : List Value := (List.range n).map (fun i => z.getD (i % z.length) default)
theorem repL_eq (n : Nat) (z : List Value) : (Array.range n).map (z.toArray[· % z.toArray.size]!) = (repL n z).toArray := by
  apply Array.ext
  · simp [repL]
  · intro i h1 h2
    simp only [repL, Array.getElem_map, Array.getElem_range, List.getElem_toArray, List.getElem_map, List.getElem_range, List.size_toArray, getElem!_def, List.getElem?_toArray, List.getD_eq_getElem?_getD]
    cases z[i % z.length]? <;> rfl

theorem x_slc {t el : TypeId} {len n : Nat} {parts : List (Nat × Operand)} {ps : List (Nat × Value)} {l : List Value} {z : List Value}
    (hu : slcP Γ.P t = some (el, n)) (hp : partsF e parts = some ps) (hsm : Nat.ble (len * n) 16777216 = true) (hpos : Nat.ble 1 (len * n) = true)
    (hz : zeroP Γ.P el = some z) (hf : fillL (fun i => some (i * n, n)) (repL (len * n) z) ps = some l) :
    Op1 Γ ⟨d, .buildSlice t len parts.toArray, ty, pos, af, g⟩ e H (fun u H' => ∃ b, u = .slice (some ⟨b, 0, none⟩) len len ∧ H' = (b, blk l el) :: H) := by
  obtain ⟨h1, h2⟩ := slcP_spec hu
  refine x_buildSlice h1 (ps := ps) ?_ h2 hsm hpos hz ?_
  · have := partsF_eq hp
    simpa using this
  · rw [repL_eq]
    exact fill_of_fillL hf

/-- A struct's fields: where each lies, and how long it is. -/
def placesF (P : Program) : List Field → Option (List (Nat × Nat))
  | [] => some []
  | f :: r => match sizeP P f.type, placesF P r with
    | some s, some ps => some ((f.offset, s) :: ps)
    | _, _ => none
def strP (P : Program) (t : TypeId) : Option (List (Nat × Nat)) :=
  match P.underlying t with
  | some (.struct ⟨fs⟩) => placesF P fs
  | _ => none

theorem placesF_run {P : Program} : ∀ {fs : List Field} {ps : List (Nat × Nat)}, placesF P fs = some ps →
    ∀ {α : Type} (f : Array (Nat × Nat) → Sem α), pureOf P (fs.toArray.mapM (fun f => do pure (f.offset, ← sizeOf f.type)) >>= f) = pureOf P (f ps.toArray) := by
  intro fs
  have key : ∀ (fs : List Field) (ps : List (Nat × Nat)), placesF P fs = some ps → ∀ {α : Type} (f : List (Nat × Nat) → Sem α), pureOf P ((fs.mapM (fun f => (do pure (f.offset, ← sizeOf f.type) : Sem (Nat × Nat)))) >>= f) = pureOf P (f ps) := by
    intro fs
    induction fs with
    | nil => intro ps h α f; cases h; simp
    | cons x r ih =>
      intro ps h α f
      simp only [placesF] at h
      split at h
      · rename_i s ps' h1 h2
        cases h
        simp only [List.mapM_cons, bind_assoc, pure_size h1, pure_bind]
        rw [ih ps' h2]
      · cases h
  intro ps h α f
  have h1 := key fs ps h (fun l => f l.toArray)
  rw [← h1]
  simp [List.mapM_toArray]

theorem light_struct {t : TypeId} {parts : List (Nat × Operand)} {ps : List (Nat × Value)} {l z : List Value} {pl : List (Nat × Nat)}
    (hu : strP Γ.P t = some pl) (hz : zeroP Γ.P t = some z) (hp : partsF e parts = some ps) (hf : fillL (fun i => pl[i]?) z ps = some l) :
    light Γ.P e ⟨d, .build t parts.toArray, ty, pos, af, g⟩ = some (.agg l.toArray) := by
  refine light_of_pure ?_ rfl
  unfold strP at hu
  split at hu
  · rename_i fs h1
    have hpp := partsF_eq hp
    have hfl := fill_of_fillL hf
    have hzz : ∀ {α : Type} (f : Value → Sem α), ∃ zv : Value, zv.cells = z.toArray ∧ pureOf Γ.P (zeroValue t >>= f) = pureOf Γ.P (f zv) := by
      intro α f
      unfold zeroP at hz
      split at hz
      · rename_i i hi
        split at hz
        · rename_i zv hzv
          refine ⟨zv, cellsF_eq hz, ?_⟩
          simp [zeroValue, typeInfo, program, bind, Sem.bind, pureOf, hi, hzv, pure]
        · cases hz
      · cases hz
    simp only [execOp, Instr.build, bind_assoc]
    obtain ⟨zv, hzc, hzr⟩ := hzz (fun zero => underlying t >>= fun d => _)
    rw [hzr, pure_underlying h1]
    simp only [bind_assoc]
    rw [placesF_run hu]
    have h9 : ((List.toArray parts).map fun (i, x) => (i, ev e x)).toList = ps := by simpa using hpp
    simp only [h9, hzc, List.getElem?_toArray, hfl]
    rfl
  · cases hu


/-- Where a field lies (one that takes cells). -/
def fldP (P : Program) (t f : Nat) : Option Nat :=
  match P.underlying t with
  | some (.struct ⟨fs⟩) => match fs[f]? with
    | some ⟨_, ft, o, _, _, _, _⟩ => match sizeP P ft with
      | some (_ + 1) => some o
      | _ => none
    | none => none
  | _ => none
theorem light_fa {t f o b off : Nat} {x : Operand} (hu : fldP Γ.P t f = some o) (hx : vnf (ev e x) = some (.pointer (some ⟨b, off, none⟩))) :
    light Γ.P e ⟨d, .fieldAddr t x f, ty, pos, af, g⟩ = some (.pointer (some ⟨b, off + o, none⟩)) := by
  refine light_of_pure ?_ rfl
  have hx := vnf_eq hx
  unfold fldP at hu
  split at hu
  · rename_i fs h1
    split at hu
    · rename_i nm ft o' em tg pp bo h2
      split at hu
      · rename_i k h3
        cases hu
        have h4 : (fs.toArray)[f]? = some ⟨nm, ft, o, em, tg, pp, bo⟩ := by simpa using h2
        simp only [execOp, Instr.fieldAt, bind_assoc, pure_underlying h1, h4, hx, Instr.sureAddr, pure_pure, fieldPlace, pure_size h3]
        simp [add_mk, pureOf, pure, bind, Sem.bind]
      · cases hu
    · cases hu
  · cases hu

def fldV (P : Program) (t f : Nat) : Option (Nat × Nat) :=
  match P.underlying t with
  | some (.struct ⟨fs⟩) => match fs[f]? with
    | some ⟨_, ft, o, _, _, _, _⟩ => some (ft, o)
    | none => none
  | _ => none
/-- x.f, x a struct by value, the field of one cell. -/
theorem light_fs {t f ft o : Nat} {x : Operand} {l : List Value} {v u : Value} (hu : fldV Γ.P t f = some (ft, o)) (hs : scalarB Γ.P ft = true) (hx : vnf (ev e x) = some (.agg ⟨l⟩)) (hv : l[o]? = some u) (hw : vnf u = some v) :
    light Γ.P e ⟨d, .field t x f, ty, pos, af, g⟩ = some v := by
  have hn := vnf_eq hw
  subst hn
  refine light_of_pure ?_ hw
  have hx := vnf_eq hx
  unfold fldV at hu
  split at hu
  · rename_i fs h1
    split at hu
    · rename_i nm ft' o' em tg pp bo h2
      cases hu
      have h4 : (fs.toArray)[f]? = some ⟨nm, ft, o, em, tg, pp, bo⟩ := by simpa using h2
      have h5 : ∀ {α : Type} (K : Bool → Sem α), pureOf Γ.P (isAgg ft >>= K) = pureOf Γ.P (K false) := by
        intro α K
        unfold scalarB at hs
        split at hs <;> try cases hs
        rename_i D hd1 hd2 hd
        simp only [isAgg, bind_assoc, pure_underlying hd]
        cases D <;> first | rfl | (exfalso; exact hd1 _ rfl) | (exfalso; exact hd2 _ _ rfl)
      simp only [execOp, Instr.field, bind_assoc, pure_underlying h1, h4, hx, asAgg, pure_pure, part, h5]
      have h6 : (Array.mk l)[o]? = some u := by simpa using hv
      simp [h6, pureOf, pure, bind, Sem.bind]
    · cases hu
  · cases hu
end
end Go.VV
namespace Go.VV
open Go

theorem wrap_i64 {n : Int} (h1 : -9223372036854775808 ≤ n) (h2 : n ≤ 9223372036854775807) : IntKind.i64.wrap n = n := by
  simp [IntKind.wrap, IntKind.bits, IntKind.signed]; omega
theorem wrap_u8 (n : Int) : IntKind.u8.wrap n = n % 256 := by
  simp [IntKind.wrap, IntKind.bits, IntKind.signed]
theorem wrap_u16 (n : Int) : IntKind.u16.wrap n = n % 65536 := by
  simp [IntKind.wrap, IntKind.bits, IntKind.signed]
theorem wrap_u64 (n : Int) : IntKind.u64.wrap n = n % 18446744073709551616 := by
  simp [IntKind.wrap, IntKind.bits, IntKind.signed]
theorem wrap_u8_id {n : Int} (h1 : 0 ≤ n) (h2 : n < 256) : IntKind.u8.wrap n = n := by rw [wrap_u8]; omega
theorem wrap_u16_id {n : Int} (h1 : 0 ≤ n) (h2 : n < 65536) : IntKind.u16.wrap n = n := by rw [wrap_u16]; omega
theorem wrap_u64_id {n : Int} (h1 : 0 ≤ n) (h2 : n < 18446744073709551616) : IntKind.u64.wrap n = n := by rw [wrap_u64]; omega

theorem succ_law {k : Nat} (h : (k : Int) < 9223372036854775807) : IntKind.i64.wrap ((k : Int) + 1) = ((k + 1 : Nat) : Int) := by
  rw [wrap_i64 (by omega) (by omega)]; simp

/-- The bits' operations, as an operation of the program gives them. -/
def band (k : IntKind) (x y : Int) : Int := k.wrap (BitVec.ofInt k.bits x &&& BitVec.ofInt k.bits y).toNat
def bor (k : IntKind) (x y : Int) : Int := k.wrap (BitVec.ofInt k.bits x ||| BitVec.ofInt k.bits y).toNat
def bxor (k : IntKind) (x y : Int) : Int := k.wrap (BitVec.ofInt k.bits x ^^^ BitVec.ofInt k.bits y).toNat
def bandn (k : IntKind) (x y : Int) : Int := k.wrap (BitVec.ofInt k.bits x &&& ~~~BitVec.ofInt k.bits y).toNat
def shr (k : IntKind) (x y : Int) : Int := x.fdiv (2 ^ min y.toNat k.bits)
def shl (k : IntKind) (x y : Int) : Int := k.wrap (x * 2 ^ min y.toNat k.bits)

/-- Whatever holds of the 256 bytes holds of a byte. -/
theorem byte_all {p : Int → Prop} (h : ∀ n : Fin 256, p (n.val : Int)) {c : Int} (h1 : 0 ≤ c) (h2 : c < 256) : p c := by
  have := h ⟨c.toNat, by omega⟩
  simp only at this
  rwa [Int.toNat_of_nonneg h1] at this

/-- A slice of numbers: its memory. -/
def Ns (w : World) (k : IntKind) (a : Option Addr) (l : List Int) : Prop := 0 < l.length → ∃ b off, a = some ⟨b, off, none⟩ ∧ Row w b off (l.map (.int k))
theorem Ns.nil (w : World) (k : IntKind) (a : Option Addr) : Ns w k a [] := fun h => by simp at h
theorem Ns.row {w : World} {k : IntKind} {a : Option Addr} {l : List Int} (h : Ns w k a l) {i : Nat} (hi : i < l.length) : ∃ b off, a = some ⟨b, off, none⟩ ∧ Row w b off (l.map (.int k)) := h (by omega)
theorem Ns.of {w : World} {k : IntKind} {b off : Nat} {l : List Int} (h : Row w b off (l.map (.int k))) : Ns w k (some ⟨b, off, none⟩) l := fun _ => ⟨b, off, rfl, h⟩
theorem Ns.later {w0 w : World} {ms : List Nat} {H : Heap} {k : IntKind} {a : Option Addr} {l : List Int} (h : Ns w0 k a l) (hm : ∀ p, a = some p → p.block ∉ ms) (hw : St w0 ms H w) : Ns w k a l := fun hl => by
  obtain ⟨b, off, rfl, hr⟩ := h hl
  exact ⟨b, off, rfl, row_old hr (hm _ rfl) w hw⟩
theorem Ns.later0 {w0 w : World} {H : Heap} {k : IntKind} {a : Option Addr} {l : List Int} (h : Ns w0 k a l) (hw : St w0 [] H w) : Ns w k a l := h.later (by simp) hw
theorem Row.int {w : World} {k : IntKind} {b off : Nat} {l : List Int} (h : Row w b off (l.map (.int k))) {i : Nat} (hi : i < l.length) : w.cell? ⟨b, off + i, none⟩ = some (.int k (l.getD i 0)) :=
  h i _ (by simp [hi])

theorem ones_int (k : IntKind) (l : List Int) : ones (l.map (.int k)) = true := by simp [ones, Value.oneCell']
theorem ones_sub {l l' : List Value} (h : ones l = true) (hs : ∀ x ∈ l', x ∈ l) : ones l' = true := List.all_eq_true.2 fun x hx => List.all_eq_true.1 h x (hs x hx)
theorem ones_cut (k : IntKind) (l : List Int) (i n : Nat) : ones (((l.map (Value.int k)).drop i).take n) = true := ones_sub (ones_int k l) fun _ hx => List.mem_of_mem_drop (List.mem_of_mem_take hx)
/-- Bytes. -/
def Byts (l : List Int) : Prop := ∀ x ∈ l, 0 ≤ x ∧ x < 256
theorem Byts.get {l : List Int} (h : Byts l) (i : Nat) : 0 ≤ l.getD i 0 ∧ l.getD i 0 < 256 := by
  by_cases hi : i < l.length
  · rw [List.getD_eq_getElem?_getD, List.getElem?_eq_getElem hi]; exact h _ (List.getElem_mem hi)
  · rw [List.getD_eq_getElem?_getD, List.getElem?_eq_none (by omega)]; simp
section
variable {P : Program} {e : Env} {d : Option Nat} {ty t u : TypeId} {pos : String} {af : Array Edge} {g : Option (Nat × Bool)} {x y : Operand} {k : IntKind} {a b : Int}
theorem rem_pos (hx : vnf (ev e x) = some (.int k a)) (hy : vnf (ev e y) = some (.int k b)) (hb : b ≠ 0) :
    light P e ⟨d, .binOp .rem t x y u, ty, pos, af, g⟩ = some (.int k (a.tmod b)) := by
  refine light_of_pure ?_ rfl
  simp [execOp, eqGuard, vnf_eq hx, vnf_eq hy, binOp, Op.intDiv, hb, pureOf, bind, Sem.bind, pure]
theorem quo_pos (hx : vnf (ev e x) = some (.int k a)) (hy : vnf (ev e y) = some (.int k b)) (hb : b ≠ 0) :
    light P e ⟨d, .binOp .quo t x y u, ty, pos, af, g⟩ = some (.int k (k.wrap (a.tdiv b))) := by
  refine light_of_pure ?_ rfl
  simp [execOp, eqGuard, vnf_eq hx, vnf_eq hy, binOp, Op.intDiv, hb, pureOf, bind, Sem.bind, pure]
/-- A shift by a count that isn't below 0. -/
theorem shr_pos {k2 : IntKind} (hx : vnf (ev e x) = some (.int k a)) (hy : vnf (ev e y) = some (.int k2 b)) (hb : 0 ≤ b) :
    light P e ⟨d, .binOp .shr t x y u, ty, pos, af, g⟩ = some (.int k (shr k a b)) := by
  refine light_of_pure ?_ rfl
  have : ¬ b < 0 := by omega
  simp [execOp, eqGuard, vnf_eq hx, vnf_eq hy, binOp, Op.shift, this, pureOf, bind, Sem.bind, pure, shr]
theorem shl_pos {k2 : IntKind} (hx : vnf (ev e x) = some (.int k a)) (hy : vnf (ev e y) = some (.int k2 b)) (hb : 0 ≤ b) :
    light P e ⟨d, .binOp .shl t x y u, ty, pos, af, g⟩ = some (.int k (shl k a b)) := by
  refine light_of_pure ?_ rfl
  have : ¬ b < 0 := by omega
  simp [execOp, eqGuard, vnf_eq hx, vnf_eq hy, binOp, Op.shift, this, pureOf, bind, Sem.bind, pure, shl]
def isSlc (P : Program) (t : TypeId) : Bool := match P.underlying t with
  | some (.slice _) => true
  | _ => false
theorem light_len {a : Option Addr} {n c : Nat} (hx : vnf (ev e x) = some (.slice a n c)) (hu : isSlc P t = true) :
    light P e ⟨d, .call ⟨.builtin .len, #[x], #[t]⟩, ty, pos, af, g⟩ = some (.int .i64 n) := by
  refine light_of_pure ?_ rfl
  have hx := vnf_eq hx
  unfold isSlc at hu
  split at hu
  · rename_i el h1
    simp only [execOp, resolve, List.map_toArray, List.map_cons, List.map_nil, hx, pure_pure, invoke, builtin, Builtin.len_, bind_assoc, List.getElem?_toArray, List.getElem?_cons_zero, pure_underlying h1]
    rfl
  · cases hu
theorem light_lens {s : ByteArray} (hx : vnf (ev e x) = some (.string s)) (hu : P.underlying t = some .string) :
    light P e ⟨d, .call ⟨.builtin .len, #[x], #[t]⟩, ty, pos, af, g⟩ = some (.int .i64 s.size) := by
  refine light_of_pure ?_ rfl
  have hx := vnf_eq hx
  simp only [execOp, resolve, List.map_toArray, List.map_cons, List.map_nil, hx, pure_pure, invoke, builtin, Builtin.len_, bind_assoc, List.getElem?_toArray, List.getElem?_cons_zero, pure_underlying hu]
  rfl
theorem light_min {k2 : IntKind} {ts : Array TypeId} (hx : vnf (ev e x) = some (.int k a)) (hy : vnf (ev e y) = some (.int k2 b)) :
    light P e ⟨d, .call ⟨.builtin .min, #[x, y], ts⟩, ty, pos, af, g⟩ = some (.int k (min a b)) := by
  refine light_of_pure ?_ rfl
  have hx := vnf_eq hx
  have hy := vnf_eq hy
  have hm : (if b < a then b else a) = min a b := by omega
  simp only [execOp, resolve, List.map_toArray, List.map_cons, List.map_nil, hx, hy, pure_pure, invoke, builtin, Builtin.min_, bind_assoc, List.foldlM_cons, List.foldlM_nil, Builtin.min2, hm]
  rfl
theorem light_max {k2 : IntKind} {ts : Array TypeId} (hx : vnf (ev e x) = some (.int k a)) (hy : vnf (ev e y) = some (.int k2 b)) :
    light P e ⟨d, .call ⟨.builtin .max, #[x, y], ts⟩, ty, pos, af, g⟩ = some (.int k (max a b)) := by
  refine light_of_pure ?_ rfl
  have hx := vnf_eq hx
  have hy := vnf_eq hy
  have hm : (if b > a then b else a) = max a b := by omega
  simp only [execOp, resolve, List.map_toArray, List.map_cons, List.map_nil, hx, hy, pure_pure, invoke, builtin, Builtin.max_, bind_assoc, List.foldlM_cons, List.foldlM_nil, Builtin.max2, hm]
  rfl
end
end Go.VV
namespace Go.VV
open Go

section
variable {P : Program} {Γ : Ctx} {k : Kont} {e : Env} {H F : Heap} {ops rest : List Oper} {d : Option Nat} {op : Op} {t : TypeId} {pos : String} {af : Array Edge} {g : Option (Nat × Bool)}
  {need : List Nat} {pl : Plan} {i : Nat}

theorem l_sure {b : Bool} (c : Bool) (hl : light Γ.P e ⟨d, op, t, pos, af, g⟩ = some (.bool b)) (hg : gdB ops e ⟨d, op, t, pos, af, g⟩ = true) (hd : dstOk Γ.n d = true) (hb : b = c)
    (h : L1 Γ ops rest k (e.put d (.bool c)) H) : L1 Γ ops (⟨d, op, t, pos, af, g⟩ :: rest) k e H := by subst hb; exact l_l hl hg hd h
theorem d_sure {b : Bool} {S : World → Prop} (c : Bool) (ho : ops[i]? = some ⟨d, op, t, pos, af, g⟩) (hl : light Γ.P e ⟨d, op, t, pos, af, g⟩ = some (.bool b)) (hg : gdB ops e ⟨d, op, t, pos, af, g⟩ = true) (hd : dstOk Γ.n d = true) (hb : b = c)
    (h : L2 Γ ops S need pl k (e.put d (.bool c)) H) : L2 Γ ops S need (.step true i pl) k e H := by subst hb; exact d_light ho hl rfl hg hd h
theorem c_sure {c : Operand} {x y : Code} {t : Bool} (b : Bool) (hc : ev e c = .bool t) (hb : t = b) (h : C Γ (if b then x else y) k e H) : C Γ (.cond c x y) k e H := by
  subst hb
  exact c_cond hc (fun ht => by rw [ht] at h; exact h) (fun ht => by rw [ht] at h; exact h)

/-- An operation whose value we name otherwise. -/
theorem l_as {v u : Value} (hl : light Γ.P e ⟨d, op, t, pos, af, g⟩ = some u) (hg : gdB ops e ⟨d, op, t, pos, af, g⟩ = true) (hd : dstOk Γ.n d = true) (hv : u = v)
    (h : L1 Γ ops rest k (e.put d v) H) : L1 Γ ops (⟨d, op, t, pos, af, g⟩ :: rest) k e H := by subst hv; exact l_l hl hg hd h
theorem d_as {v u : Value} {S : World → Prop} (ho : ops[i]? = some ⟨d, op, t, pos, af, g⟩) (hl : light Γ.P e ⟨d, op, t, pos, af, g⟩ = some u) (hu : notTuple u = true) (hg : gdB ops e ⟨d, op, t, pos, af, g⟩ = true) (hd : dstOk Γ.n d = true) (hv : u = v)
    (h : L2 Γ ops S need pl k (e.put d v) H) : L2 Γ ops S need (.step true i pl) k e H := by subst hv; exact d_light ho hl hu hg hd h

/-- What is moved as it is. -/
theorem l_mv {x : Operand} {v : Value} (hx : ev e x = v) (hg : gdB ops e ⟨d, .move x, t, pos, af, g⟩ = true) (hd : dstOk Γ.n d = true)
    (h : L1 Γ ops rest k (e.put d v) H) : L1 Γ ops (⟨d, .move x, t, pos, af, g⟩ :: rest) k e H :=
  l_op (K := fun u H' => u = v ∧ H' = H) hg hd (fun _ hw => opW_run (by simp only [execOp]; rw [hx]; rfl) ⟨H, hw, rfl, rfl⟩) (by rintro _ _ ⟨rfl, rfl⟩; exact h)
theorem l_as' {x : Operand} {v : Value} (hx : ev e x = v) (hg : gdB ops e ⟨d, .assign x, t, pos, af, g⟩ = true) (hd : dstOk Γ.n d = true)
    (h : L1 Γ ops rest k (e.put d v) H) : L1 Γ ops (⟨d, .assign x, t, pos, af, g⟩ :: rest) k e H :=
  l_op (K := fun u H' => u = v ∧ H' = H) hg hd (fun _ hw => opW_run (by simp only [execOp]; rw [hx]; rfl) ⟨H, hw, rfl, rfl⟩) (by rintro _ _ ⟨rfl, rfl⟩; exact h)
theorem d_mv {S : World → Prop} {x : Operand} {v : Value} (ho : ops[i]? = some ⟨d, .move x, t, pos, af, g⟩) (hx : ev e x = v) (hg : gdB ops e ⟨d, .move x, t, pos, af, g⟩ = true) (hd : dstOk Γ.n d = true)
    (h : L2 Γ ops S need pl k (e.put d v) H) : L2 Γ ops S need (.step true i pl) k e H :=
  d_yield ho hg hd (fun w _ => by simp only [execOp]; rw [hx]; rfl) h
theorem d_as' {S : World → Prop} {x : Operand} {v : Value} (ho : ops[i]? = some ⟨d, .assign x, t, pos, af, g⟩) (hx : ev e x = v) (hg : gdB ops e ⟨d, .assign x, t, pos, af, g⟩ = true) (hd : dstOk Γ.n d = true)
    (h : L2 Γ ops S need pl k (e.put d v) H) : L2 Γ ops S need (.step true i pl) k e H :=
  d_yield ho hg hd (fun w _ => by simp only [execOp]; rw [hx]; rfl) h

/-- A call that hands back one value, and leaves all as it was. -/
theorem x_val {f : Nat} {l : List Operand} {ts : Array TypeId} {vs : List Value} {u : Value} (hc : callable Γ.P f = true) (hv : evs e l = some vs)
    (hf : ∀ w, St Γ.w0 Γ.ms H w → Does Γ.P f vs w [] (fun v H => H = [] ∧ v = u)) :
    Op1 Γ ⟨d, .call ⟨.value (.func f), l.toArray, ts⟩, t, pos, af, g⟩ e H (fun v H' => v = u ∧ H' = H) := fun w hw => by
  refine opW_mono (x_call hc hv hf w hw) ?_
  rintro v w' ⟨H', h1, H2, ⟨h2, h3⟩, h4⟩
  subst h2 h4
  exact ⟨_, h1, h3, rfl⟩

def byteP (P : Program) (el c : Nat) : Bool := match P.info? el with
  | some i => Nat.ble (c * i.bytes) 140737488355328 && Nat.blt 0 i.bytes
  | none => false
theorem byteP_spec {P : Program} {el c : Nat} (h : byteP P el c = true) : ∃ i, P.info? el = some i ∧ c * i.bytes ≤ 140737488355328 ∧ 0 < i.bytes := by
  unfold byteP at h
  split at h
  · rename_i i hi
    simp only [Bool.and_eq_true] at h
    exact ⟨i, hi, Nat.le_of_ble_eq_true h.1, Nat.lt_of_lt_of_le (Nat.zero_lt_one) (Nat.le_of_ble_eq_true h.2)⟩
  · cases h

/-- make([]T, n), n a constant. -/
theorem x_make {tt el n s : Nat} {x y : Operand} {k1 k2 : IntKind} {a b : Int} {z : List Value} {c : Nat} (hx : vnf (ev e x) = some (.int k1 a)) (hy : vnf (ev e y) = some (.int k2 b)) (ha : a = (n : Int)) (hb : b = (c : Int)) (hnc : n ≤ c)
    (hu : slcP Γ.P tt = some (el, s)) (hz : zeroP Γ.P el = some z) (hpos : Nat.blt 0 (c * s) = true) (hby : byteP Γ.P el c = true) :
    Op1 Γ ⟨d, .makeSlice tt x y, t, pos, af, g⟩ e H (fun u H' => ∃ b, u = .slice (some ⟨b, 0, none⟩) n c ∧ H' = (b, blk (repL (c * s) z) el) :: H) := by
  intro w hw
  obtain ⟨h1, h2⟩ := slcP_spec hu
  have hx := vnf_eq hx
  have hy := vnf_eq hy
  obtain ⟨zv, hzv, hzc⟩ := run_zero hz w
  obtain ⟨i, hi, hb2, hb3⟩ := byteP_spec hby
  have hpos : 0 < c * s := Nat.lt_of_lt_of_le (Nat.zero_lt_one) (Nat.le_of_ble_eq_true hpos)
  subst ha hb
  have hc : c ≤ 140737488355328 := Nat.le_trans (Nat.le_mul_of_pos_right c hb3) hb2
  have hw1 : IntKind.i64.wrap (n : Int) = n := wrap_i64 (by omega) (by omega)
  have hw2 : IntKind.i64.wrap (c : Int) = c := wrap_i64 (by omega) (by omega)
  have key : (Instr.makeSlice tt (.int k1 n) (.int k2 c)).run Γ.P w = .ok (.slice (some ⟨w.heap.size, 0, none⟩) n c) (w.alloc (blk (repL (c * s) z) el)) := by
    unfold Instr.makeSlice
    have e1 : (typeInfo el).run Γ.P w = .ok i w := by simp [typeInfo, hi]
    have e2 : ((i.bytes : Int) * (c : Int)) ≤ 140737488355328 := by
      rw [← Int.natCast_mul, Nat.mul_comm]; exact Int.ofNat_le.2 hb2
    have hbad : (decide ((c : Int) < 0) || decide ((i.bytes : Int) * (c : Int) > 281474976710656) || decide ((n : Int) < 0) || decide ((n : Int) > c)) = false := by
      simp only [Bool.or_eq_false_iff, decide_eq_false_iff_not]
      refine ⟨⟨⟨by omega, by omega⟩, by omega⟩, by omega⟩
    have hcz : ¬ c * s = 0 := by omega
    simp only [Sem.run_bind, run_underlying h1, Result.andThen_ok, asInt, asIntOf, Sem.run_pure, e1, hw1, hw2]
    have hpow : ((2 : Int) ^ 48) = 281474976710656 := by decide
    simp only [hpow, hbad, Bool.false_eq_true, if_false, Sem.run_bind, run_askRoom, run_sizeOf h2, Result.andThen_ok, Int.toNat_natCast, hcz, hzv, Sem.run_pure, hzc, repL_eq]
    rfl
  refine opW_run (v := .slice (some ⟨w.heap.size, 0, none⟩) n c) (w' := w.alloc (blk (repL (c * s) z) el)) ?_ ⟨_, hw.alloc _, _, rfl, rfl⟩
  simp only [execOp, hx, hy, Sem.run_bind, key, Result.andThen_ok, Sem.run_pure]

/-- What the blocks 'G' tell of a slice of numbers, wherever they are as they are. -/
def Gives (G : Heap) (k : IntKind) (a : Option Addr) (l : List Int) : Prop :=
  0 < l.length → ∃ b off, a = some ⟨b, off, none⟩ ∧ ∀ w : World, (∀ x ∈ G, w.heap[x.1]? = some x.2) → Row w b off (l.map (.int k))
theorem Gives.nil (G : Heap) (k : IntKind) (a : Option Addr) : Gives G k a [] := fun h => by simp at h
theorem Gives.ns {G H : Heap} {k : IntKind} {a : Option Addr} {l : List Int} {w0 w : World} {ms : List Nat} (h : Gives G k a l) (hw : St w0 ms H w) (hs : ∀ x ∈ G, x ∈ H) : Ns w k a l := fun hl => by
  obtain ⟨b, off, ha, hr⟩ := h hl
  exact ⟨b, off, ha, hr w fun x hx => hw.holds x (hs x hx)⟩
theorem Gives.row {G : Heap} {k : IntKind} {a : Option Addr} {l : List Int} (h : Gives G k a l) {i : Nat} (hi : i < l.length) :
    ∃ b off, a = some ⟨b, off, none⟩ ∧ ∀ w : World, (∀ x ∈ G, w.heap[x.1]? = some x.2) → Row w b off (l.map (.int k)) := h (by omega)
theorem at_gives {G : Heap} {w0 : World} {ms : List Nat} {k : IntKind} {b off : Nat} {l : List Int} (hr : ∀ w : World, (∀ x ∈ G, w.heap[x.1]? = some x.2) → Row w b off (l.map (.int k))) (hs : ∀ x ∈ G, x ∈ H) {i : Nat} (hi : i < l.length) :
    ∀ w, St w0 ms H w → w.cell? ⟨b, off + i, none⟩ = some (.int k (l.getD i 0)) := fun w hw => (hr w fun x hx => hw.holds x (hs x hx)).int hi
theorem s_gives {G : Heap} {k : IntKind} {b off : Nat} {l : List Int} (hr : ∀ w : World, (∀ x ∈ G, w.heap[x.1]? = some x.2) → Row w b off (l.map (.int k))) (hs : ∀ x ∈ G, x ∈ F) {i : Nat} (hi : i < l.length) :
    ∀ w, Stood Γ F w → w.cell? ⟨b, off + i, none⟩ = some (.int k (l.getD i 0)) := fun _ ⟨_, hw, hF⟩ => at_gives hr (fun x hx => hF x (hs x hx)) hi _ hw
/-- A list of numbers that is handed on. -/
def Lst (k : IntKind) (l : List Int) (v : Value) (H : Heap) : Prop := ∃ a c, v = .slice a l.length c ∧ l.length ≤ c ∧ Gives H k a l
theorem Lst.nil {k : IntKind} : Lst k [] (.slice none 0 0) [] := ⟨none, 0, rfl, Nat.le_refl _, .nil _ _ _⟩
theorem Lst.of_row {k : IntKind} {l : List Int} {b n c T : Nat} {L : List Value} {fr : Nat × Nat} (hn : n = l.length) (hc : l.length ≤ c) (hl : ∀ (j : Nat) (v : Value), (l.map (Value.int k))[j]? = some v → L[j]? = some v) :
    Lst k l (.slice (some ⟨b, 0, none⟩) n c) [(b, .cells L.toArray T fr)] := by
  subst hn
  refine ⟨_, c, rfl, hc, fun _ => ⟨b, 0, rfl, fun w hw => ?_⟩⟩
  exact Row.of_blk (cs := L.toArray) (t := T) (fr := fr) (hw _ (.head _)) (fun j v hv => by simpa using hl j v hv)
theorem repL_one (n : Nat) (z : Value) : repL n [z] = List.replicate n z := by
  apply List.ext_getElem
  · simp [repL]
  · intro i h1 h2
    simp [repL, Nat.mod_one]
theorem Lst.of_vec {k : IntKind} {l : List Int} {T n : Nat} {v : Value} {G : Heap} (h : Vec T 1 v n (l.map (.int k)) G) : Lst k l v G := by
  have hl : l.length = n := by have := h.len; simpa using this
  generalize hx : l.map (Value.int k) = xs at h
  cases h with
  | nil =>
    have : l = [] := List.eq_nil_of_length_eq_zero hl
    subst this; exact .nil
  | row b _ cap _ sp hn hc hm hle =>
    refine Lst.of_row hl.symm (by omega) (fun j v hv => ?_)
    rw [hx] at hv
    have hj : j < xs.length := by
      rcases Nat.lt_or_ge j xs.length with h1 | h1
      · exact h1
      · rw [List.getElem?_eq_none h1] at hv; cases hv
    rw [List.getElem?_append_left hj]; exact hv
end
end Go.VV
namespace Go.VV
open Go

theorem equal_bool {P : Program} {t : TypeId} {a b : Bool} (hu : P.underlying t = some .bool) : pureOf P (Op.equal t (.bool a) (.bool b)) = some (a == b) := by
  obtain ⟨n, hn⟩ : ∃ n, Op.maxDepth = n + 1 := ⟨9999, rfl⟩
  unfold Op.equal
  rw [hn]
  simp only [Op.equalIn]
  rw [pure_underlying hu]
  rfl
theorem pure_bound {α β : Type} {P : Program} {s : Sem α} {f : α → Sem β} {a : α} (h : pureOf P s = some a) : pureOf P (s >>= f) = pureOf P (f a) := by
  induction s with
  | pure b => simp only [pureOf] at h; cases h; rfl
  | program k ih => simp only [pureOf] at h; exact ih P h
  | _ => simp [pureOf] at h

section
variable {P : Program} {e : Env} {d : Option Nat} {x y : Operand} {t ty : TypeId} {u : TypeId} {pos : String} {af : Array Edge} {g : Option (Nat × Bool)} {a b : Bool}
theorem light_eqb (hx : vnf (ev e x) = some (.bool a)) (hy : vnf (ev e y) = some (.bool b)) (hu : P.underlying t = some .bool) :
    light P e ⟨d, .binOp .eql t x y u, ty, pos, af, g⟩ = some (.bool (a == b)) := by
  refine light_of_pure ?_ rfl
  have hx := vnf_eq hx
  have hy := vnf_eq hy
  have key := equal_bool (a := a) (b := b) hu
  generalize hE : Op.equal t (.bool a) (.bool b) = E at key
  simp only [execOp, hx, hy]
  unfold eqGuard binOp
  simp only [hE]
  simp only [Bool.not_true, Bool.false_eq_true, if_false, pure_bind, bind_assoc]
  exact (pure_bound key).trans rfl
theorem light_neb (hx : vnf (ev e x) = some (.bool a)) (hy : vnf (ev e y) = some (.bool b)) (hu : P.underlying t = some .bool) :
    light P e ⟨d, .binOp .neq t x y u, ty, pos, af, g⟩ = some (.bool (!(a == b))) := by
  refine light_of_pure ?_ rfl
  have hx := vnf_eq hx
  have hy := vnf_eq hy
  have key := equal_bool (a := a) (b := b) hu
  generalize hE : Op.equal t (.bool a) (.bool b) = E at key
  simp only [execOp, hx, hy]
  unfold eqGuard binOp
  simp only [hE]
  simp only [Bool.not_true, Bool.false_eq_true, if_false, pure_bind, bind_assoc]
  exact (pure_bound key).trans rfl
end
/-- A part that only computes: what it leaves in the slots 'M' is 'vs'; the heap is as it was. -/
theorem c_keep {Γ : Ctx} {k : Kont} {e : Env} {L : Heap} {x y : Code} (M : List Nat) (vs : List (Nat × Value))
    (h1 : C Γ x ⟨fun e' L' => Sits e' vs ∧ Agree M e' e ∧ (∀ w, St Γ.w0 Γ.ms L' w → St Γ.w0 Γ.ms L w), k.R, k.X⟩ e L)
    (h2 : ∀ u, C Γ y k (mix M vs u e) L) : C Γ (.seq x y) k e L :=
  c_cut (σ := Unit) M (fun _ => vs) (fun _ => L) (fun _ => True) (c_mono h1 (by rintro (_ | _ | j) e' L' h <;> first | exact ⟨(), trivial, h.1, h.2.1, h.2.2⟩ | exact h)) (fun _ u _ => h2 u)
/-- Behind a part that was shut off. -/
theorem Agree.keep {M M' : List Nat} {vs : List (Nat × Value)} {x e e0 : Env} (hs : (M'.all (fun t => M.any (Nat.beq t)) && vs.all (fun p => M.any (Nat.beq p.1))) = true) (h : Agree M e e0) : Agree M (VV.mix M' vs x e) e0 := by
  simp only [Bool.and_eq_true, List.all_eq_true] at hs
  intro t ht
  unfold VV.mix
  cases hq : vs.find? (fun p => Nat.beq p.1 t) with
  | some p =>
    exfalso
    have h1 := List.mem_of_find?_eq_some hq
    have h2 := hs.2 p h1
    have h3 : Nat.beq p.1 t = true := by have := List.find?_some hq; simpa using this
    rw [Nat.eq_of_beq_eq_true h3, ht] at h2
    cases h2
  | none =>
    cases hm : M'.any (Nat.beq t) with
    | false => exact h t ht
    | true =>
      exfalso
      obtain ⟨u, hu, hb⟩ := List.any_eq_true.1 hm
      have h2 := hs.1 u hu
      rw [← Nat.eq_of_beq_eq_true hb, ht] at h2
      cases h2
/-- A loop that leaves the heap as it was. -/
theorem c_loopk {Γ : Ctx} {k : Kont} {e : Env} {L : Heap} {σ : Type} {c : Code} (M : List Nat) (vs : σ → List (Nat × Value)) (J : σ → Prop) (μ : σ → Nat) (s0 : σ)
    (h0 : J s0) (hv : Sits e (vs s0))
    (round : ∀ s x, J s → C Γ c ⟨fun e' L' => ∃ s', J s' ∧ μ s' < μ s ∧ Sits e' (vs s') ∧ Agree M e' e ∧ (∀ w, St Γ.w0 Γ.ms L' w → St Γ.w0 Γ.ms L w), k.R, k.X⟩ (mix M (vs s) x e) L) :
    C Γ (.loop c) k e L := c_loop M vs (fun _ => L) J μ s0 h0 hv (fun _ h => h) round
end Go.VV
namespace Go.VV
open Go

theorem run_callV {P : Program} {e : Env} {f : Nat} {x : Operand} {A B : Array Value} {l : List Operand} {ts : Array TypeId} {d : Option Nat} {t : TypeId} {pos : String} {af : Array Edge} {g : Option (Nat × Bool)}
    (hx : ev e x = .func (.func f) A B) (hc : callable P f = true) (w : World) :
    (execOp (ev e) ⟨d, .call ⟨.value x, l.toArray, ts⟩, t, pos, af, g⟩).run P w = .ok (.enter f (A ++ (l.map (ev e)).toArray ++ B)) w := by
  unfold callable at hc
  split at hc
  · rename_i fn hf
    simp only [Bool.and_eq_true, Bool.not_eq_true'] at hc
    obtain ⟨h1, h2⟩ := hc
    have hs : (program : Sem Program) = .program .pure := rfl
    have h3 : ¬ fn.name = "runtime.NumGoroutine" := by simpa using h1
    have h4 : ¬ fn.body = none := by
      intro hx; rw [hx] at h2; cases h2
    simp [execOp, resolve, Deferred.ofValue, hx, invoke, callFunc, bind, Sem.bind, Sem.run, hf, h3, h4, pure, hs]
  · cases hc

section
variable {Γ : Ctx} {e : Env} {H F G : Heap} {d : Option Nat} {t : TypeId} {pos : String} {af : Array Edge} {g : Option (Nat × Bool)} {f : Nat} {x : Operand} {l : List Operand} {ts : Array TypeId}

/-- A call of a function value; it turns the blocks 'ms2', which stand among the entries 'F'. -/
theorem x_callVF {A B : List Value} {vs : List Value} (ms2 : List Nat) (hx : vnf (ev e x) = some (.func (.func f) A.toArray B.toArray)) (hc : callable Γ.P f = true) (hv : evs e l = some vs) {R : Value → Heap → Prop}
    (hms : ∀ b ∈ ms2, ∃ o, (b, o) ∈ F) (hf : ∀ w, St Γ.w0 Γ.ms (F ++ G) w → Does Γ.P f (A ++ vs ++ B) w ms2 R) :
    Op1 Γ ⟨d, .call ⟨.value x, l.toArray, ts⟩, t, pos, af, g⟩ e (F ++ G) (fun v H2 => ∃ H', R v H' ∧ H2 = H' ++ G) := fun w hw => by
  refine opW_enter (run_callV (vnf_eq hx) hc w) ?_
  have : A.toArray ++ (l.map (ev e)).toArray ++ B.toArray = (A ++ vs ++ B).toArray := by
    rw [evs_eq hv]
    simp
  rw [this]
  refine Calls.mono (hf w hw) ?_
  rintro ex w' ⟨v, H', rfl, h1, h2⟩
  exact ⟨v, rfl, _, hw.call hms h1, H', h2, rfl⟩
theorem x_callV {A B : List Value} {vs : List Value} (hx : vnf (ev e x) = some (.func (.func f) A.toArray B.toArray)) (hc : callable Γ.P f = true) (hv : evs e l = some vs) {R : Value → Heap → Prop}
    (hf : ∀ w, St Γ.w0 Γ.ms H w → Does Γ.P f (A ++ vs ++ B) w [] R) :
    Op1 Γ ⟨d, .call ⟨.value x, l.toArray, ts⟩, t, pos, af, g⟩ e H (fun v H2 => ∃ H', R v H' ∧ H2 = H' ++ H) := x_callVF (F := []) [] hx hc hv (by simp) hf
/-- A function value's call that hands back one value, and leaves all as it was. -/
theorem x_valV {A B : List Value} {vs : List Value} {u : Value} (hx : vnf (ev e x) = some (.func (.func f) A.toArray B.toArray)) (hc : callable Γ.P f = true) (hv : evs e l = some vs)
    (hf : ∀ w, St Γ.w0 Γ.ms H w → Does Γ.P f (A ++ vs ++ B) w [] (fun v H' => H' = [] ∧ v = u)) :
    Op1 Γ ⟨d, .call ⟨.value x, l.toArray, ts⟩, t, pos, af, g⟩ e H (fun v H' => v = u ∧ H' = H) := fun w hw => by
  refine opW_mono (x_callV hx hc hv hf w hw) ?_
  rintro v w' ⟨H', h1, H2, ⟨h2, h3⟩, h4⟩
  subst h2 h4
  exact ⟨_, h1, h3, rfl⟩
end

/-- A start at which the caller lends blocks. -/
theorem St.lent {w : World} {F : Heap} (hn : (F.map (·.1)).Nodup) (hF : ∀ x ∈ F, w.heap[x.1]? = some x.2) : St w (F.map (·.1)) F w :=
  ⟨rfl, rfl, rfl, Nat.le_refl _, fun _ _ _ => rfl, hn, fun x hx => .inl (List.mem_map.2 ⟨x, hx, rfl⟩), hF⟩
theorem St.lent1 {w : World} {b : Nat} {o : Obj} (h : w.heap[b]? = some o) : St w [b] [(b, o)] w := St.lent (F := [(b, o)]) (by simp) (by simpa using h)
end Go.VV
