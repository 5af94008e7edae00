/- Rows of elements of several cells. Plain lemmas; no program. -/
import Derived.Test.YtjceoaomkbabmaaMcA
namespace Go.VV
open Go

theorem equal_bool {P : Program} {t : TypeId} {a b : Bool} (hu : P.underlying t = some .bool) : pureOf P (Op.equal t (.bool a) (.bool b)) = some (a == b) := by
  obtain ⟨n, hn⟩ : ∃ n, Op.maxDepth = n + 1 := ⟨9999, rfl⟩
  unfold Op.equal
  rw [hn]
  simp only [Op.equalIn]
  rw [pure_underlying hu]
  rfl
theorem pure_bound {α β : Type} {P : Program} {s : Sem α} {f : α → Sem β} {a : α} (h : pureOf P s = some a) : pureOf P (s >>= f) = pureOf P (f a) := by
  induction s with
  | pure b => simp only [pureOf] at h; cases h; rfl
  | program k ih => simp only [pureOf] at h; exact ih P h
  | _ => simp [pureOf] at h

section
variable {P : Program} {e : Env} {d : Option Nat} {x y : Operand} {t ty : TypeId} {u : TypeId} {pos : String} {af : Array Edge} {g : Option (Nat × Bool)} {a b : Bool}
theorem light_eqb (hx : vnf (ev e x) = some (.bool a)) (hy : vnf (ev e y) = some (.bool b)) (hu : P.underlying t = some .bool) :
    light P e ⟨d, .binOp .eql t x y u, ty, pos, af, g⟩ = some (.bool (a == b)) := by
  refine light_of_pure ?_ rfl
  have hx := vnf_eq hx
  have hy := vnf_eq hy
  have key := equal_bool (a := a) (b := b) hu
  generalize hE : Op.equal t (.bool a) (.bool b) = E at key
  simp only [execOp, hx, hy]
  unfold eqGuard binOp
  simp only [hE]
  simp only [Bool.not_true, Bool.false_eq_true, if_false, pure_bind, bind_assoc]
  exact (pure_bound key).trans rfl
theorem light_neb (hx : vnf (ev e x) = some (.bool a)) (hy : vnf (ev e y) = some (.bool b)) (hu : P.underlying t = some .bool) :
    light P e ⟨d, .binOp .neq t x y u, ty, pos, af, g⟩ = some (.bool (!(a == b))) := by
  refine light_of_pure ?_ rfl
  have hx := vnf_eq hx
  have hy := vnf_eq hy
  have key := equal_bool (a := a) (b := b) hu
  generalize hE : Op.equal t (.bool a) (.bool b) = E at key
  simp only [execOp, hx, hy]
  unfold eqGuard binOp
  simp only [hE]
  simp only [Bool.not_true, Bool.false_eq_true, if_false, pure_bind, bind_assoc]
  exact (pure_bound key).trans rfl
end
/-- A part that only computes: what it leaves in the slots 'M' is 'vs'; the heap is as it was. -/
theorem c_keep {Γ : Ctx} {k : Kont} {e : Env} {L : Heap} {x y : Code} (M : List Nat) (vs : List (Nat × Value))
    (h1 : C Γ x ⟨fun e' L' => Sits e' vs ∧ Agree M e' e ∧ (∀ w, St Γ.w0 Γ.ms L' w → St Γ.w0 Γ.ms L w), k.R, k.X⟩ e L)
    (h2 : ∀ u, C Γ y k (mix M vs u e) L) : C Γ (.seq x y) k e L :=
  c_cut (σ := Unit) M (fun _ => vs) (fun _ => L) (fun _ => True) (c_mono h1 (by rintro (_ | _ | j) e' L' h <;> first | exact ⟨(), trivial, h.1, h.2.1, h.2.2⟩ | exact h)) (fun _ u _ => h2 u)
/-- Behind a part that was shut off. -/
theorem Agree.keep {M M' : List Nat} {vs : List (Nat × Value)} {x e e0 : Env} (hs : (M'.all (fun t => M.any (Nat.beq t)) && vs.all (fun p => M.any (Nat.beq p.1))) = true) (h : Agree M e e0) : Agree M (VV.mix M' vs x e) e0 := by
  simp only [Bool.and_eq_true, List.all_eq_true] at hs
  intro t ht
  unfold VV.mix
  cases hq : vs.find? (fun p => Nat.beq p.1 t) with
  | some p =>
    exfalso
    have h1 := List.mem_of_find?_eq_some hq
    have h2 := hs.2 p h1
    have h3 : Nat.beq p.1 t = true := by have := List.find?_some hq; simpa using this
    rw [Nat.eq_of_beq_eq_true h3, ht] at h2
    cases h2
  | none =>
    cases hm : M'.any (Nat.beq t) with
    | false => exact h t ht
    | true =>
      exfalso
      obtain ⟨u, hu, hb⟩ := List.any_eq_true.1 hm
      have h2 := hs.1 u hu
      rw [← Nat.eq_of_beq_eq_true hb, ht] at h2
      cases h2
/-- A loop that leaves the heap as it was. -/
theorem c_loopk {Γ : Ctx} {k : Kont} {e : Env} {L : Heap} {σ : Type} {c : Code} (M : List Nat) (vs : σ → List (Nat × Value)) (J : σ → Prop) (μ : σ → Nat) (s0 : σ)
    (h0 : J s0) (hv : Sits e (vs s0))
    (round : ∀ s x, J s → C Γ c ⟨fun e' L' => ∃ s', J s' ∧ μ s' < μ s ∧ Sits e' (vs s') ∧ Agree M e' e ∧ (∀ w, St Γ.w0 Γ.ms L' w → St Γ.w0 Γ.ms L w), k.R, k.X⟩ (mix M (vs s) x e) L) :
    C Γ (.loop c) k e L := c_loop M vs (fun _ => L) J μ s0 h0 hv (fun _ h => h) round
end Go.VV
namespace Go.VV
open Go

theorem run_callV {P : Program} {e : Env} {f : Nat} {x : Operand} {A B : Array Value} {l : List Operand} {ts : Array TypeId} {d : Option Nat} {t : TypeId} {pos : String} {af : Array Edge} {g : Option (Nat × Bool)}
    (hx : ev e x = .func (.func f) A B) (hc : callable P f = true) (w : World) :
    (execOp (ev e) ⟨d, .call ⟨.value x, l.toArray, ts⟩, t, pos, af, g⟩).run P w = .ok (.enter f (A ++ (l.map (ev e)).toArray ++ B)) w := by
  unfold callable at hc
  split at hc
  · rename_i fn hf
    simp only [Bool.and_eq_true, Bool.not_eq_true'] at hc
    obtain ⟨h1, h2⟩ := hc
    have hs : (program : Sem Program) = .program .pure := rfl
    have h3 : ¬ fn.name = "runtime.NumGoroutine" := by simpa using h1
    have h4 : ¬ fn.body = none := by
      intro hx; rw [hx] at h2; cases h2
    simp [execOp, resolve, Deferred.ofValue, hx, invoke, callFunc, bind, Sem.bind, Sem.run, hf, h3, h4, pure, hs]
  · cases hc

section
variable {Γ : Ctx} {e : Env} {H F G : Heap} {d : Option Nat} {t : TypeId} {pos : String} {af : Array Edge} {g : Option (Nat × Bool)} {f : Nat} {x : Operand} {l : List Operand} {ts : Array TypeId}

/-- A call of a function value; it turns the blocks 'ms2', which stand among the entries 'F'. -/
theorem x_callVF {A B : List Value} {vs : List Value} (ms2 : List Nat) (hx : vnf (ev e x) = some (.func (.func f) A.toArray B.toArray)) (hc : callable Γ.P f = true) (hv : evs e l = some vs) {R : Value → Heap → Prop}
    (hms : ∀ b ∈ ms2, ∃ o, (b, o) ∈ F) (hf : ∀ w, St Γ.w0 Γ.ms (F ++ G) w → Does Γ.P f (A ++ vs ++ B) w ms2 R) :
    Op1 Γ ⟨d, .call ⟨.value x, l.toArray, ts⟩, t, pos, af, g⟩ e (F ++ G) (fun v H2 => ∃ H', R v H' ∧ H2 = H' ++ G) := fun w hw => by
  refine opW_enter (run_callV (vnf_eq hx) hc w) ?_
  have : A.toArray ++ (l.map (ev e)).toArray ++ B.toArray = (A ++ vs ++ B).toArray := by
    rw [evs_eq hv]
    simp
  rw [this]
  refine Calls.mono (hf w hw) ?_
  rintro ex w' ⟨v, H', rfl, h1, h2⟩
  exact ⟨v, rfl, _, hw.call hms h1, H', h2, rfl⟩
theorem x_callV {A B : List Value} {vs : List Value} (hx : vnf (ev e x) = some (.func (.func f) A.toArray B.toArray)) (hc : callable Γ.P f = true) (hv : evs e l = some vs) {R : Value → Heap → Prop}
    (hf : ∀ w, St Γ.w0 Γ.ms H w → Does Γ.P f (A ++ vs ++ B) w [] R) :
    Op1 Γ ⟨d, .call ⟨.value x, l.toArray, ts⟩, t, pos, af, g⟩ e H (fun v H2 => ∃ H', R v H' ∧ H2 = H' ++ H) := x_callVF (F := []) [] hx hc hv (by simp) hf
/-- A function value's call that hands back one value, and leaves all as it was. -/
theorem x_valV {A B : List Value} {vs : List Value} {u : Value} (hx : vnf (ev e x) = some (.func (.func f) A.toArray B.toArray)) (hc : callable Γ.P f = true) (hv : evs e l = some vs)
    (hf : ∀ w, St Γ.w0 Γ.ms H w → Does Γ.P f (A ++ vs ++ B) w [] (fun v H' => H' = [] ∧ v = u)) :
    Op1 Γ ⟨d, .call ⟨.value x, l.toArray, ts⟩, t, pos, af, g⟩ e H (fun v H' => v = u ∧ H' = H) := fun w hw => by
  refine opW_mono (x_callV hx hc hv hf w hw) ?_
  rintro v w' ⟨H', h1, H2, ⟨h2, h3⟩, h4⟩
  subst h2 h4
  exact ⟨_, h1, h3, rfl⟩
end

/-- A start at which the caller lends blocks. -/
theorem St.lent {w : World} {F : Heap} (hn : (F.map (·.1)).Nodup) (hF : ∀ x ∈ F, w.heap[x.1]? = some x.2) : St w (F.map (·.1)) F w :=
  ⟨rfl, rfl, rfl, Nat.le_refl _, fun _ _ _ => rfl, hn, fun x hx => .inl (List.mem_map.2 ⟨x, hx, rfl⟩), hF⟩
theorem St.lent1 {w : World} {b : Nat} {o : Obj} (h : w.heap[b]? = some o) : St w [b] [(b, o)] w := St.lent (F := [(b, o)]) (by simp) (by simpa using h)
end Go.VV
namespace Go.VV
open Go

section
variable {α : Type} {c : α → List Value} {s : Nat}
def flat (c : α → List Value) (l : List α) : List Value := l.flatMap c
theorem flat_nil : flat c [] = [] := rfl
theorem flat_cons (x : α) (l : List α) : flat c (x :: l) = c x ++ flat c l := rfl
theorem flat_append (a b : List α) : flat c (a ++ b) = flat c a ++ flat c b := by simp [flat]
theorem flat_len (hc : ∀ x, (c x).length = s) (l : List α) : (flat c l).length = l.length * s := by
  induction l with
  | nil => simp [flat]
  | cons x l ih => rw [flat_cons, List.length_append, ih, hc, List.length_cons, Nat.add_mul, Nat.one_mul, Nat.add_comm]
theorem putL_mid (X Y Z y : List Value) (h : Y.length = y.length) : putL (X ++ (Y ++ Z)) X.length y = X ++ (y ++ Z) := by
  unfold putL
  have h1 : (X ++ (Y ++ Z)).take X.length = X := by simp
  have h2 : (X ++ (Y ++ Z)).drop (X.length + y.length) = Z := by
    rw [← h, ← List.append_assoc]
    have : X.length + Y.length = (X ++ Y).length := by simp
    rw [this]; simp
  rw [h1, h2, List.append_assoc]
theorem putL_flat (hc : ∀ x, (c x).length = s) (A B : List α) (x y : α) (sp : List Value) : putL (flat c (A ++ x :: B) ++ sp) (0 + A.length * s) (c y) = flat c (A ++ y :: B) ++ sp := by
  have := putL_mid (flat c A) (c x) (flat c B ++ sp) (c y) (by rw [hc, hc])
  rw [flat_len hc] at this
  simpa [flat_append, flat_cons, List.append_assoc] using this
theorem putL_flat2 (hc : ∀ x, (c x).length = s) (A B : List α) (x y z : α) (sp : List Value) : putL (flat c ((A ++ [x]) ++ y :: B) ++ sp) (0 + (A ++ [x]).length * s) (c z) = flat c (A ++ x :: z :: B) ++ sp := by
  rw [putL_flat hc (A ++ [x]) B y z sp, List.append_assoc]; rfl
theorem flat_fits (hc : ∀ x, (c x).length = s) (A B : List α) (x y : α) (sp : List Value) : 0 + A.length * s + (c y).length ≤ (flat c (A ++ x :: B) ++ sp).length := by
  rw [List.length_append, flat_append, flat_cons, List.length_append, List.length_append, flat_len hc, hc, hc]; omega
theorem Row.elem {w : World} {b off : Nat} {A B : List α} {x : α} {sp : List Value} (hc : ∀ x, (c x).length = s) (h : Row w b off (flat c (A ++ x :: B) ++ sp)) : Row w b (off + A.length * s) (c x) := by
  intro j v hv
  have hj : j < (c x).length := by
    rcases Nat.lt_or_ge j (c x).length with h1 | h1
    · exact h1
    · rw [List.getElem?_eq_none h1] at hv; cases hv
  have := h (A.length * s + j) v (by
    rw [flat_append, flat_cons, ← flat_len hc A, List.append_assoc, List.getElem?_append_right (Nat.le_add_right _ _), Nat.add_sub_cancel_left, List.append_assoc, List.getElem?_append_left hj]
    exact hv)
  rw [Nat.add_assoc]; exact this
theorem Row.elem2 {w : World} {b off : Nat} {A B : List α} {x y : α} {sp : List Value} (hc : ∀ x, (c x).length = s) (h : Row w b off (flat c ((A ++ [x]) ++ y :: B) ++ sp)) : Row w b (off + A.length * s) (c x) := by
  rw [List.append_assoc] at h
  exact Row.elem hc h
theorem snoc_of {l : List α} (h : 0 < l.length) : ∃ A a, l = A ++ [a] := by
  have hn : l ≠ [] := by intro h0; subst h0; simp at h
  exact ⟨l.dropLast, l.getLast hn, (List.dropLast_concat_getLast hn).symm⟩
theorem pred_len {A : List α} {x : α} (h : A.length < 1000000000) : IntKind.i64.wrap (((A ++ [x]).length : Int) - 1) = (A.length : Int) := by
  rw [List.length_append, List.length_singleton, wrap_i64 (by omega) (by omega)]; omega
theorem split_at {l : List α} {j : Nat} (hj : j < l.length) : l = l.take j ++ l[j] :: l.drop (j + 1) := by
  rw [List.getElem_cons_drop, List.take_append_drop]
theorem Row.nth {w : World} {b off : Nat} {l : List α} (hc : ∀ x, (c x).length = s) (h : Row w b off (flat c l)) {j : Nat} (hj : j < l.length) : Row w b (off + j * s) (c l[j]) := by
  have h' : Row w b off (flat c (l.take j ++ l[j] :: l.drop (j + 1)) ++ []) := by rw [← split_at hj, List.append_nil]; exact h
  have := Row.elem hc h'
  rwa [List.length_take, Nat.min_eq_left (by omega)] at this
theorem Row.nth' {w : World} {b off : Nat} {l : List α} {x : α} (hc : ∀ x, (c x).length = s) (h : Row w b off (flat c l)) {j : Nat} (hj : l[j]? = some x) : Row w b (off + j * s) (c x) := by
  obtain ⟨h1, h2⟩ := List.getElem?_eq_some_iff.1 hj
  have := Row.nth hc h h1
  rwa [h2] at this
theorem Row.left {w : World} {b off : Nat} {l r : List Value} (h : Row w b off (l ++ r)) : Row w b off l := fun j v hv => h j v (by
  have hj : j < l.length := by
    rcases Nat.lt_or_ge j l.length with h1 | h1
    · exact h1
    · rw [List.getElem?_eq_none h1] at hv; cases hv
  rw [List.getElem?_append_left hj]; exact hv)

/-- A slice of elements that can be read. -/
def Els (w : World) (c : α → List Value) (a : Option Addr) (l : List α) : Prop := 0 < l.length → ∃ b off, a = some ⟨b, off, none⟩ ∧ Row w b off (flat c l)
theorem Els.nil (w : World) (c : α → List Value) (a : Option Addr) : Els w c a [] := fun h => by simp at h
theorem Els.row {w : World} {a : Option Addr} {l : List α} (h : Els w c a l) {i : Nat} (hi : i < l.length) : ∃ b off, a = some ⟨b, off, none⟩ ∧ Row w b off (flat c l) := h (by omega)
theorem Els.later0 {w0 w : World} {H : Heap} {a : Option Addr} {l : List α} (h : Els w0 c a l) (hw : St w0 [] H w) : Els w c a l := fun hl => by
  obtain ⟨b, off, ha, hr⟩ := h hl
  exact ⟨b, off, ha, row_old hr (by simp) w hw⟩
/-- What the blocks 'G' tell of a slice of elements. -/
def GivesE (G : Heap) (c : α → List Value) (a : Option Addr) (l : List α) : Prop :=
  0 < l.length → ∃ b off, a = some ⟨b, off, none⟩ ∧ ∀ w : World, (∀ x ∈ G, w.heap[x.1]? = some x.2) → Row w b off (flat c l)
theorem GivesE.els {G H : Heap} {a : Option Addr} {l : List α} {w0 w : World} {ms : List Nat} (h : GivesE G c a l) (hw : St w0 ms H w) (hs : ∀ x ∈ G, x ∈ H) : Els w c a l := fun hl => by
  obtain ⟨b, off, ha, hr⟩ := h hl
  exact ⟨b, off, ha, hr w fun x hx => hw.holds x (hs x hx)⟩
theorem Vec.gives {T n : Nat} {v : Value} {G : Heap} {l : List α} (h : Vec T s v n (flat c l) G) (hc : ∀ x, (c x).length = s) (hs : 0 < s) : ∃ a cp, v = .slice a n cp ∧ l.length = n ∧ n ≤ cp ∧ GivesE G c a l := by
  have hl := h.len
  rw [flat_len hc] at hl
  have hn : l.length = n := Nat.eq_of_mul_eq_mul_right hs hl
  generalize hx : flat c l = xs at h
  cases h with
  | nil => exact ⟨none, 0, rfl, hn, Nat.le_refl _, fun h0 => by omega⟩
  | row b _ cap _ sp h1 h2 h3 h4 =>
    refine ⟨_, cap, rfl, hn, h4, fun _ => ⟨b, 0, rfl, fun w hw => ?_⟩⟩
    have := Row.all (w := w) (b := b) (hw _ (.head _))
    rw [← hx] at this
    exact this.left
end

/-- An array literal. -/
theorem light_array {P : Program} {e : Env} {d : Option Nat} {ty : TypeId} {pos : String} {af : Array Edge} {g : Option (Nat × Bool)} {t el n s : Nat} {parts : List (Nat × Operand)} {ps : List (Nat × Value)} {l z : List Value}
    (hu : arrP P t = some (n, el, s)) (hz : zeroP P t = some z) (hp : partsF e parts = some ps) (hf : fillL (fun i => some (i * s, s)) z ps = some l) :
    light P e ⟨d, .build t parts.toArray, ty, pos, af, g⟩ = some (.agg l.toArray) := by
  refine light_of_pure ?_ rfl
  obtain ⟨h1, h2⟩ := arrP_spec hu
  have hpp := partsF_eq hp
  have hfl := fill_of_fillL hf
  have hzz : ∀ {α : Type} (f : Value → Sem α), ∃ zv : Value, zv.cells = z.toArray ∧ pureOf P (zeroValue t >>= f) = pureOf P (f zv) := by
    intro α f
    unfold zeroP at hz
    split at hz
    · rename_i i hi
      split at hz
      · rename_i zv hzv
        refine ⟨zv, cellsF_eq hz, ?_⟩
        simp [zeroValue, typeInfo, program, bind, Sem.bind, pureOf, hi, hzv, pure]
      · cases hz
    · cases hz
  simp only [execOp, Instr.build, bind_assoc]
  obtain ⟨zv, hzc, hzr⟩ := hzz (fun zero => underlying t >>= fun d => _)
  rw [hzr, pure_underlying h1]
  simp only [bind_assoc]
  rw [pure_size h2]
  have h9 : ((List.toArray parts).map fun (i, x) => (i, ev e x)).toList = ps := by simpa using hpp
  simp only [h9, hzc, hfl]
  rfl
/-- An empty slice that isn't nil. -/
theorem x_slc0 {Γ : Ctx} {e : Env} {H : Heap} {d : Option Nat} {ty : TypeId} {pos : String} {af : Array Edge} {g : Option (Nat × Bool)} {t el n : Nat} (hu : slcP Γ.P t = some (el, n)) :
    Op1 Γ ⟨d, .buildSlice t 0 #[], ty, pos, af, g⟩ e H (fun u H' => ∃ b, u = .slice (some ⟨b, 0, none⟩) 0 0 ∧ H' = (b, blk [] el) :: H) := by
  intro w hw
  obtain ⟨h1, h2⟩ := slcP_spec hu
  refine opW_run (v := .slice (some ⟨w.heap.size, 0, none⟩) 0 0) (w' := w.alloc (blk [] el)) ?_ ⟨_, hw.alloc _, _, rfl, rfl⟩
  have h3 : ¬ (0 : Nat) > 2 ^ 24 := by decide
  have hq : (#[] : Array (Nat × Operand)).map (fun x => (x.1, ev e x.2)) = #[] := by simp
  have hm : (Array.range 0).map (fun x => (#[] : Array Value)[x % (#[] : Array Value).size]!) = #[] := by simp
  have key : (Instr.buildSlice t 0 #[]).run Γ.P w = .ok (.slice (some ⟨w.heap.size, 0, none⟩) 0 0) (w.alloc (blk [] el)) := by
    unfold Instr.buildSlice
    simp only [Sem.run_bind, run_underlying h1, run_sizeOf h2, Result.andThen_ok, Nat.zero_mul, if_true, if_neg h3, Sem.run_pure, hm, Instr.fill]
    rfl
  simp only [execOp, hq, Sem.run_bind, key, Result.andThen_ok, Sem.run_pure]
theorem map_get {kd : IntKind} {l : List Int} {k : Nat} (h : k < l.length) : (l.map (Value.int kd))[k]? = some (.int kd (l.getD k 0)) := by simp [h]
theorem mem_fst {G : Heap} {b : Nat} (h : b ∈ G.map (·.1)) : ∃ o, (b, o) ∈ G := by
  obtain ⟨⟨b', o⟩, h1, h2⟩ := List.mem_map.1 h
  exact ⟨o, by simp only at h2; subst h2; exact h1⟩
theorem putL_all {l vs : List Value} (h : vs.length = l.length) : putL l 0 vs = vs := by
  unfold putL
  rw [List.take_zero, List.nil_append, Nat.zero_add, h, List.drop_length, List.append_nil]
theorem flat_snoc {α : Type} {c : α → List Value} (A : List α) (x : α) : flat c (A ++ [x]) = flat c A ++ c x := by simp [flat]

/-! ### an array that is filled place by place -/
section
variable {kd : IntKind} {f : Nat → Int} {N k : Nat}
def upTo (kd : IntKind) (f : Nat → Int) (N k : Nat) : List Value := (List.range k).map (fun i => Value.int kd (f i)) ++ List.replicate (N - k) (.int kd 0)
theorem upTo_zero (kd : IntKind) (f : Nat → Int) (N : Nat) : List.replicate N (Value.int kd 0) = upTo kd f N 0 := by simp [upTo]
theorem upTo_len (hk : k ≤ N) : (upTo kd f N k).length = N := by simp [upTo]; omega
theorem upTo_rest (hk : k < N) : upTo kd f N k = (List.range k).map (fun i => Value.int kd (f i)) ++ ([.int kd 0] ++ List.replicate (N - (k + 1)) (.int kd 0)) := by
  unfold upTo
  have : N - k = (N - (k + 1)) + 1 := by omega
  rw [this, List.replicate_succ]; rfl
theorem upTo_put (hk : k < N) (v : Int) (hv : v = f k) : putL (upTo kd f N k) k [.int kd v] = upTo kd f N (k + 1) := by
  have := putL_mid ((List.range k).map (fun i => Value.int kd (f i))) [.int kd 0] (List.replicate (N - (k + 1)) (.int kd 0)) [.int kd v] rfl
  rw [List.length_map, List.length_range] at this
  rw [upTo_rest hk, this, hv]
  simp [upTo, List.range_succ]
theorem upTo_none (hk : k < N) (h : f k = 0) : upTo kd f N k = upTo kd f N (k + 1) := by
  rw [upTo_rest hk]
  simp [upTo, List.range_succ, h]
theorem upTo_all (kd : IntKind) (f : Nat → Int) (N : Nat) : upTo kd f N N = (List.range N).map (fun i => Value.int kd (f i)) := by simp [upTo]
theorem upTo_ones (kd : IntKind) (f : Nat → Int) (N k : Nat) : ones (upTo kd f N k) = true := by
  refine List.all_eq_true.2 fun x hx => ?_
  rcases List.mem_append.1 hx with h | h
  · obtain ⟨i, _, rfl⟩ := List.mem_map.1 h; rfl
  · obtain ⟨_, rfl⟩ := List.mem_replicate.1 h; rfl
theorem putL_again {l : List Value} {u v : Value} {k : Nat} (hk : k < l.length) : putL (putL l k [u]) k [v] = putL l k [v] := by
  have h1 : l = l.take k ++ ([l[k]] ++ l.drop (k + 1)) := by simp
  have hlen : (l.take k).length = k := by rw [List.length_take]; omega
  generalize l.take k = X at *
  generalize l.drop (k + 1) = Z at *
  generalize l[k] = y at *
  have e : ∀ a b : Value, putL (X ++ ([a] ++ Z)) k [b] = X ++ ([b] ++ Z) := fun a b => by
    have := putL_mid X [a] Z [b] rfl
    rwa [hlen] at this
  rw [h1, e, e, e]
theorem putL_len {l vs : List Value} {o : Nat} (h : o + vs.length ≤ l.length) : (putL l o vs).length = l.length := by
  simp only [putL, List.length_append, List.length_take, List.length_drop]; omega
end
end Go.VV
