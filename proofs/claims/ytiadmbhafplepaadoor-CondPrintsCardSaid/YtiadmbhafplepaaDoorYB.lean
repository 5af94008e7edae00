/- Arguments that hold slices: structs with slices in them, slices of slices, rows of such structs. Append of zeros to a nil slice. Plain lemmas; no program. -/
import Derived.Below
import Derived.Laws.BytesArg
import Derived.Laws.Externs
import Derived.Laws.Strings2
import Derived.Laws.StructEq
import Derived.Laws.World
import Derived.Lib.AppendZeros
import Derived.Lib.Overlaps
import Derived.Lib.SmallJoins
import Derived.OpenShut
import Derived.ProofKit
import Derived.RangeFuncRecord
import Derived.Test.YtiadmbhafplepaaDoorYA
import Derived.WalkKit
namespace Go.VV
open Go

section
variable {α : Type} {c : α → List Value} {s : Nat}
def flat (c : α → List Value) (l : List α) : List Value := l.flatMap c
theorem flat_nil : flat c [] = [] := rfl
theorem flat_cons (x : α) (l : List α) : flat c (x :: l) = c x ++ flat c l := rfl
theorem flat_append (a b : List α) : flat c (a ++ b) = flat c a ++ flat c b := by simp [flat]
theorem flat_len (hc : ∀ x, (c x).length = s) (l : List α) : (flat c l).length = l.length * s := by
  induction l with
  | nil => simp [flat]
  | cons x l ih => rw [flat_cons, List.length_append, ih, hc, List.length_cons, Nat.add_mul, Nat.one_mul, Nat.add_comm]
theorem putL_mid (X Y Z y : List Value) (h : Y.length = y.length) : putL (X ++ (Y ++ Z)) X.length y = X ++ (y ++ Z) := by
  unfold putL
  have h1 : (X ++ (Y ++ Z)).take X.length = X := by simp
  have h2 : (X ++ (Y ++ Z)).drop (X.length + y.length) = Z := by
    rw [← h, ← List.append_assoc]
    have : X.length + Y.length = (X ++ Y).length := by simp
    rw [this]; simp
  rw [h1, h2, List.append_assoc]
theorem putL_flat (hc : ∀ x, (c x).length = s) (A B : List α) (x y : α) (sp : List Value) : putL (flat c (A ++ x :: B) ++ sp) (0 + A.length * s) (c y) = flat c (A ++ y :: B) ++ sp := by
  have := putL_mid (flat c A) (c x) (flat c B ++ sp) (c y) (by rw [hc, hc])
  rw [flat_len hc] at this
  simpa [flat_append, flat_cons, List.append_assoc] using this
theorem putL_flat2 (hc : ∀ x, (c x).length = s) (A B : List α) (x y z : α) (sp : List Value) : putL (flat c ((A ++ [x]) ++ y :: B) ++ sp) (0 + (A ++ [x]).length * s) (c z) = flat c (A ++ x :: z :: B) ++ sp := by
  rw [putL_flat hc (A ++ [x]) B y z sp, List.append_assoc]; rfl
theorem flat_fits (hc : ∀ x, (c x).length = s) (A B : List α) (x y : α) (sp : List Value) : 0 + A.length * s + (c y).length ≤ (flat c (A ++ x :: B) ++ sp).length := by
  rw [List.length_append, flat_append, flat_cons, List.length_append, List.length_append, flat_len hc, hc, hc]; omega
theorem Row.elem {w : World} {b off : Nat} {A B : List α} {x : α} {sp : List Value} (hc : ∀ x, (c x).length = s) (h : Row w b off (flat c (A ++ x :: B) ++ sp)) : Row w b (off + A.length * s) (c x) := by
  intro j v hv
  have hj : j < (c x).length := by
    rcases Nat.lt_or_ge j (c x).length with h1 | h1
    · exact h1
    · rw [List.getElem?_eq_none h1] at hv; cases hv
  have := h (A.length * s + j) v (by
    rw [flat_append, flat_cons, ← flat_len hc A, List.append_assoc, List.getElem?_append_right (Nat.le_add_right _ _), Nat.add_sub_cancel_left, List.append_assoc, List.getElem?_append_left hj]
    exact hv)
  rw [Nat.add_assoc]; exact this
theorem Row.elem2 {w : World} {b off : Nat} {A B : List α} {x y : α} {sp : List Value} (hc : ∀ x, (c x).length = s) (h : Row w b off (flat c ((A ++ [x]) ++ y :: B) ++ sp)) : Row w b (off + A.length * s) (c x) := by
  rw [List.append_assoc] at h
  exact Row.elem hc h
theorem snoc_of {l : List α} (h : 0 < l.length) : ∃ A a, l = A ++ [a] := by
  have hn : l ≠ [] := by intro h0; subst h0; simp at h
  exact ⟨l.dropLast, l.getLast hn, (List.dropLast_concat_getLast hn).symm⟩
theorem pred_len {A : List α} {x : α} (h : A.length < 1000000000) : IntKind.i64.wrap (((A ++ [x]).length : Int) - 1) = (A.length : Int) := by
  rw [List.length_append, List.length_singleton, wrap_i64 (by omega) (by omega)]; omega
theorem split_at {l : List α} {j : Nat} (hj : j < l.length) : l = l.take j ++ l[j] :: l.drop (j + 1) := by
  rw [List.getElem_cons_drop, List.take_append_drop]
theorem Row.nth {w : World} {b off : Nat} {l : List α} (hc : ∀ x, (c x).length = s) (h : Row w b off (flat c l)) {j : Nat} (hj : j < l.length) : Row w b (off + j * s) (c l[j]) := by
  have h' : Row w b off (flat c (l.take j ++ l[j] :: l.drop (j + 1)) ++ []) := by rw [← split_at hj, List.append_nil]; exact h
  have := Row.elem hc h'
  rwa [List.length_take, Nat.min_eq_left (by omega)] at this
theorem Row.nth' {w : World} {b off : Nat} {l : List α} {x : α} (hc : ∀ x, (c x).length = s) (h : Row w b off (flat c l)) {j : Nat} (hj : l[j]? = some x) : Row w b (off + j * s) (c x) := by
  obtain ⟨h1, h2⟩ := List.getElem?_eq_some_iff.1 hj
  have := Row.nth hc h h1
  rwa [h2] at this
theorem Row.left {w : World} {b off : Nat} {l r : List Value} (h : Row w b off (l ++ r)) : Row w b off l := fun j v hv => h j v (by
  have hj : j < l.length := by
    rcases Nat.lt_or_ge j l.length with h1 | h1
    · exact h1
    · rw [List.getElem?_eq_none h1] at hv; cases hv
  rw [List.getElem?_append_left hj]; exact hv)

/-- A slice of elements that can be read. -/
def Els (w : World) (c : α → List Value) (a : Option Addr) (l : List α) : Prop := 0 < l.length → ∃ b off, a = some ⟨b, off, none⟩ ∧ Row w b off (flat c l)
theorem Els.nil (w : World) (c : α → List Value) (a : Option Addr) : Els w c a [] := fun h => by simp at h
theorem Els.row {w : World} {a : Option Addr} {l : List α} (h : Els w c a l) {i : Nat} (hi : i < l.length) : ∃ b off, a = some ⟨b, off, none⟩ ∧ Row w b off (flat c l) := h (by omega)
theorem Els.later0 {w0 w : World} {H : Heap} {a : Option Addr} {l : List α} (h : Els w0 c a l) (hw : St w0 [] H w) : Els w c a l := fun hl => by
  obtain ⟨b, off, ha, hr⟩ := h hl
  exact ⟨b, off, ha, row_old hr (by simp) w hw⟩
/-- What the blocks 'G' tell of a slice of elements. -/
def GivesE (G : Heap) (c : α → List Value) (a : Option Addr) (l : List α) : Prop :=
  0 < l.length → ∃ b off, a = some ⟨b, off, none⟩ ∧ ∀ w : World, (∀ x ∈ G, w.heap[x.1]? = some x.2) → Row w b off (flat c l)
theorem GivesE.els {G H : Heap} {a : Option Addr} {l : List α} {w0 w : World} {ms : List Nat} (h : GivesE G c a l) (hw : St w0 ms H w) (hs : ∀ x ∈ G, x ∈ H) : Els w c a l := fun hl => by
  obtain ⟨b, off, ha, hr⟩ := h hl
  exact ⟨b, off, ha, hr w fun x hx => hw.holds x (hs x hx)⟩
theorem Vec.gives {T n : Nat} {v : Value} {G : Heap} {l : List α} (h : Vec T s v n (flat c l) G) (hc : ∀ x, (c x).length = s) (hs : 0 < s) : ∃ a cp, v = .slice a n cp ∧ l.length = n ∧ n ≤ cp ∧ GivesE G c a l := by
  have hl := h.len
  rw [flat_len hc] at hl
  have hn : l.length = n := Nat.eq_of_mul_eq_mul_right hs hl
  generalize hx : flat c l = xs at h
  cases h with
  | nil => exact ⟨none, 0, rfl, hn, Nat.le_refl _, fun h0 => by omega⟩
  | row b _ cap _ sp h1 h2 h3 h4 =>
    refine ⟨_, cap, rfl, hn, h4, fun _ => ⟨b, 0, rfl, fun w hw => ?_⟩⟩
    have := Row.all (w := w) (b := b) (hw _ (.head _))
    rw [← hx] at this
    exact this.left
end

/-- An array literal. -/
theorem light_array {P : Program} {e : Env} {d : Option Nat} {ty : TypeId} {pos : String} {af : Array Edge} {g : Option (Nat × Bool)} {t el n s : Nat} {parts : List (Nat × Operand)} {ps : List (Nat × Value)} {l z : List Value}
    (hu : arrP P t = some (n, el, s)) (hz : zeroP P t = some z) (hp : partsF e parts = some ps) (hf : fillL (fun i => some (i * s, s)) z ps = some l) :
    light P e ⟨d, .build t parts.toArray, ty, pos, af, g⟩ = some (.agg l.toArray) := by
  refine light_of_pure ?_ rfl
  obtain ⟨h1, h2⟩ := arrP_spec hu
  have hpp := partsF_eq hp
  have hfl := fill_of_fillL hf
  have hzz : ∀ {α : Type} (f : Value → Sem α), ∃ zv : Value, zv.cells = z.toArray ∧ pureOf P (zeroValue t >>= f) = pureOf P (f zv) := by
    intro α f
    unfold zeroP at hz
    split at hz
    · rename_i i hi
      split at hz
      · rename_i zv hzv
        refine ⟨zv, cellsF_eq hz, ?_⟩
        simp [zeroValue, typeInfo, program, bind, Sem.bind, pureOf, hi, hzv, pure]
      · cases hz
    · cases hz
  simp only [execOp, Instr.build, bind_assoc]
  obtain ⟨zv, hzc, hzr⟩ := hzz (fun zero => underlying t >>= fun d => _)
  rw [hzr, pure_underlying h1]
  simp only [bind_assoc]
  rw [pure_size h2]
  have h9 : ((List.toArray parts).map fun (i, x) => (i, ev e x)).toList = ps := by simpa using hpp
  simp only [h9, hzc, hfl]
  rfl
/-- An empty slice that isn't nil. -/
theorem x_slc0 {Γ : Ctx} {e : Env} {H : Heap} {d : Option Nat} {ty : TypeId} {pos : String} {af : Array Edge} {g : Option (Nat × Bool)} {t el n : Nat} (hu : slcP Γ.P t = some (el, n)) :
    Op1 Γ ⟨d, .buildSlice t 0 #[], ty, pos, af, g⟩ e H (fun u H' => ∃ b, u = .slice (some ⟨b, 0, none⟩) 0 0 ∧ H' = (b, blk [] el) :: H) := by
  intro w hw
  obtain ⟨h1, h2⟩ := slcP_spec hu
  refine opW_run (v := .slice (some ⟨w.heap.size, 0, none⟩) 0 0) (w' := w.alloc (blk [] el)) ?_ ⟨_, hw.alloc _, _, rfl, rfl⟩
  have h3 : ¬ (0 : Nat) > 2 ^ 24 := by decide
  have hq : (#[] : Array (Nat × Operand)).map (fun x => (x.1, ev e x.2)) = #[] := by simp
  have hm : (Array.range 0).map (fun x => (#[] : Array Value)[x % (#[] : Array Value).size]!) = #[] := by simp
  have key : (Instr.buildSlice t 0 #[]).run Γ.P w = .ok (.slice (some ⟨w.heap.size, 0, none⟩) 0 0) (w.alloc (blk [] el)) := by
    unfold Instr.buildSlice
    simp only [Sem.run_bind, run_underlying h1, run_sizeOf h2, Result.andThen_ok, Nat.zero_mul, if_true, if_neg h3, Sem.run_pure, hm, Instr.fill]
    rfl
  simp only [execOp, hq, Sem.run_bind, key, Result.andThen_ok, Sem.run_pure]
theorem map_get {kd : IntKind} {l : List Int} {k : Nat} (h : k < l.length) : (l.map (Value.int kd))[k]? = some (.int kd (l.getD k 0)) := by simp [h]
theorem mem_fst {G : Heap} {b : Nat} (h : b ∈ G.map (·.1)) : ∃ o, (b, o) ∈ G := by
  obtain ⟨⟨b', o⟩, h1, h2⟩ := List.mem_map.1 h
  exact ⟨o, by simp only at h2; subst h2; exact h1⟩
theorem putL_all {l vs : List Value} (h : vs.length = l.length) : putL l 0 vs = vs := by
  unfold putL
  rw [List.take_zero, List.nil_append, Nat.zero_add, h, List.drop_length, List.append_nil]
theorem flat_snoc {α : Type} {c : α → List Value} (A : List α) (x : α) : flat c (A ++ [x]) = flat c A ++ c x := by simp [flat]

/-! ### an array that is filled place by place -/
section
variable {kd : IntKind} {f : Nat → Int} {N k : Nat}
def upTo (kd : IntKind) (f : Nat → Int) (N k : Nat) : List Value := (List.range k).map (fun i => Value.int kd (f i)) ++ List.replicate (N - k) (.int kd 0)
theorem upTo_zero (kd : IntKind) (f : Nat → Int) (N : Nat) : List.replicate N (Value.int kd 0) = upTo kd f N 0 := by simp [upTo]
theorem upTo_len (hk : k ≤ N) : (upTo kd f N k).length = N := by simp [upTo]; omega
theorem upTo_rest (hk : k < N) : upTo kd f N k = (List.range k).map (fun i => Value.int kd (f i)) ++ ([.int kd 0] ++ List.replicate (N - (k + 1)) (.int kd 0)) := by
  unfold upTo
  have : N - k = (N - (k + 1)) + 1 := by omega
  rw [this, List.replicate_succ]; rfl
theorem upTo_put (hk : k < N) (v : Int) (hv : v = f k) : putL (upTo kd f N k) k [.int kd v] = upTo kd f N (k + 1) := by
  have := putL_mid ((List.range k).map (fun i => Value.int kd (f i))) [.int kd 0] (List.replicate (N - (k + 1)) (.int kd 0)) [.int kd v] rfl
  rw [List.length_map, List.length_range] at this
  rw [upTo_rest hk, this, hv]
  simp [upTo, List.range_succ]
theorem upTo_none (hk : k < N) (h : f k = 0) : upTo kd f N k = upTo kd f N (k + 1) := by
  rw [upTo_rest hk]
  simp [upTo, List.range_succ, h]
theorem upTo_all (kd : IntKind) (f : Nat → Int) (N : Nat) : upTo kd f N N = (List.range N).map (fun i => Value.int kd (f i)) := by simp [upTo]
theorem upTo_ones (kd : IntKind) (f : Nat → Int) (N k : Nat) : ones (upTo kd f N k) = true := by
  refine List.all_eq_true.2 fun x hx => ?_
  rcases List.mem_append.1 hx with h | h
  · obtain ⟨i, _, rfl⟩ := List.mem_map.1 h; rfl
  · obtain ⟨_, rfl⟩ := List.mem_replicate.1 h; rfl
theorem putL_again {l : List Value} {u v : Value} {k : Nat} (hk : k < l.length) : putL (putL l k [u]) k [v] = putL l k [v] := by
  have h1 : l = l.take k ++ ([l[k]] ++ l.drop (k + 1)) := by simp
  have hlen : (l.take k).length = k := by rw [List.length_take]; omega
  generalize l.take k = X at *
  generalize l.drop (k + 1) = Z at *
  generalize l[k] = y at *
  have e : ∀ a b : Value, putL (X ++ ([a] ++ Z)) k [b] = X ++ ([b] ++ Z) := fun a b => by
    have := putL_mid X [a] Z [b] rfl
    rwa [hlen] at this
  rw [h1, e, e, e]
theorem putL_len {l vs : List Value} {o : Nat} (h : o + vs.length ≤ l.length) : (putL l o vs).length = l.length := by
  simp only [putL, List.length_append, List.length_take, List.length_drop]; omega
end
end Go.VV
namespace Go.VV
open Go

/-- The method 'name' of the type 't0' is the function 'f'; it takes the value as it is. -/
def HasM (P : Program) (t0 : TypeId) (name : String) (f : Nat) : Prop := ∀ (v : Value) (w : World), (method (P.types.size + Made.depth) t0 v name).run P w = .ok (f, v) w

theorem run_callI {P : Program} {e : Env} {f : Nat} {x : Operand} {t0 : TypeId} {v : Value} {name : String} {l : List Operand} {ts : Array TypeId} {d : Option Nat} {t : TypeId} {pos : String} {af : Array Edge} {g : Option (Nat × Bool)}
    (hx : ev e x = .iface t0 v) (hm : HasM P t0 name f) (hc : callable P f = true) (w : World) :
    (execOp (ev e) ⟨d, .call ⟨.invoke x name, l.toArray, ts⟩, t, pos, af, g⟩).run P w = .ok (.enter f (#[v] ++ (l.map (ev e)).toArray)) w := by
  unfold callable at hc
  split at hc
  · rename_i fn hf
    simp only [Bool.and_eq_true, Bool.not_eq_true'] at hc
    obtain ⟨h1, h2⟩ := hc
    have hs : (program : Sem Program) = .program .pure := rfl
    have h3 : ¬ fn.name = "runtime.NumGoroutine" := by simpa using h1
    have h4 : ¬ fn.body = none := by
      intro hx; rw [hx] at h2; cases h2
    have hp : ∀ w, (program : Sem Program).run P w = .ok P w := fun w => rfl
    have hcf : ∀ (args : Array Value) w, (callFunc f args).run P w = .ok (.enter f args) w := fun args w => by
      simp [callFunc, bind, Sem.bind, Sem.run, hf, h3, h4, pure, hs]
    simp only [execOp, resolve, Sem.run_bind, Sem.run_pure, Result.andThen_ok, invoke, callMethod, hx]
    simp [hm v w, hcf, hp, Sem.run_bind, Result.andThen_ok]
    exact List.take_of_length_le (by simp)
  · cases hc

section
variable {Γ : Ctx} {e : Env} {H F G : Heap} {d : Option Nat} {t : TypeId} {pos : String} {af : Array Edge} {g : Option (Nat × Bool)} {f : Nat} {x : Operand} {l : List Operand} {ts : Array TypeId}
/-- A call through an interface; it turns the blocks 'ms2', which stand among the entries 'F'. -/
theorem x_callI {t0 : TypeId} {v : Value} {name : String} {vs : List Value} (ms2 : List Nat) (hx : ev e x = .iface t0 v) (hm : HasM Γ.P t0 name f) (hc : callable Γ.P f = true) (hv : evs e l = some vs) {R : Value → Heap → Prop}
    (hms : ∀ b ∈ ms2, ∃ o, (b, o) ∈ F) (hf : ∀ w, St Γ.w0 Γ.ms (F ++ G) w → Does Γ.P f (v :: vs) w ms2 R) :
    Op1 Γ ⟨d, .call ⟨.invoke x name, l.toArray, ts⟩, t, pos, af, g⟩ e (F ++ G) (fun v H2 => ∃ H', R v H' ∧ H2 = H' ++ G) := fun w hw => by
  refine opW_enter (run_callI hx hm hc w) ?_
  have : #[v] ++ (l.map (ev e)).toArray = (v :: vs).toArray := by
    rw [evs_eq hv]
    simp
  rw [this]
  refine Calls.mono (hf w hw) ?_
  rintro ex w' ⟨v, H', rfl, h1, h2⟩
  exact ⟨v, rfl, _, hw.call hms h1, H', h2, rfl⟩
/-- .. that changes nothing that there was, and answers one value. -/
theorem x_valI {t0 : TypeId} {v u : Value} {name : String} {vs : List Value} (hx : ev e x = .iface t0 v) (hm : HasM Γ.P t0 name f) (hc : callable Γ.P f = true) (hv : evs e l = some vs)
    (hf : ∀ w, St Γ.w0 Γ.ms H w → Does Γ.P f (v :: vs) w [] (fun v H' => H' = [] ∧ v = u)) :
    Op1 Γ ⟨d, .call ⟨.invoke x name, l.toArray, ts⟩, t, pos, af, g⟩ e H (fun v H' => v = u ∧ H' = H) := fun w hw => by
  refine opW_mono (x_callI (F := []) [] hx hm hc hv (by simp) (fun w hw => hf w hw) w hw) ?_
  rintro v w' ⟨H', h1, H2, ⟨h2, h3⟩, h4⟩
  subst h2 h4
  exact ⟨_, h1, h3, rfl⟩
/-- .. the blocks that it turns stand at the end. -/
theorem x_callIT {A : Heap} {t0 : TypeId} {v : Value} {name : String} {vs : List Value} (hx : ev e x = .iface t0 v) (hm : HasM Γ.P t0 name f) (hc : callable Γ.P f = true) (hv : evs e l = some vs) {R : Value → Heap → Prop}
    (hf : ∀ w, St Γ.w0 Γ.ms (A ++ F) w → Does Γ.P f (v :: vs) w (A.map (·.1)) R) :
    Op1 Γ ⟨d, .call ⟨.invoke x name, l.toArray, ts⟩, t, pos, af, g⟩ e (F ++ A) (fun v H2 => ∃ H', R v H' ∧ H2 = F ++ H') := fun w hw => by
  refine opW_mono (x_callI (F := A) (G := F) (A.map (·.1)) hx hm hc hv (fun _ hb => mem_fst hb) hf w (hw.perm List.perm_append_comm)) ?_
  rintro v w' ⟨H2, h2, H', hR, rfl⟩
  exact ⟨F ++ H', h2.perm List.perm_append_comm, H', hR, rfl⟩
theorem x_callT {A : Heap} {vs : List Value} (hc : callable Γ.P f = true) (hv : evs e l = some vs) {R : Value → Heap → Prop}
    (hf : ∀ w, St Γ.w0 Γ.ms (A ++ F) w → Does Γ.P f vs w (A.map (·.1)) R) :
    Op1 Γ ⟨d, .call ⟨.value (.func f), l.toArray, ts⟩, t, pos, af, g⟩ e (F ++ A) (fun v H2 => ∃ H', R v H' ∧ H2 = F ++ H') := fun w hw => by
  refine opW_mono (x_callF (A := A) (G := F) (A.map (·.1)) hc hv (fun _ hb => mem_fst hb) hf w (hw.perm List.perm_append_comm)) ?_
  rintro v w' ⟨H2, h2, H', hR, rfl⟩
  exact ⟨F ++ H', h2.perm List.perm_append_comm, H', hR, rfl⟩
theorem x_callVT {A : Heap} {B C vs : List Value} (hx : vnf (ev e x) = some (.func (.func f) B.toArray C.toArray)) (hc : callable Γ.P f = true) (hv : evs e l = some vs) {R : Value → Heap → Prop}
    (hf : ∀ w, St Γ.w0 Γ.ms (A ++ F) w → Does Γ.P f (B ++ vs ++ C) w (A.map (·.1)) R) :
    Op1 Γ ⟨d, .call ⟨.value x, l.toArray, ts⟩, t, pos, af, g⟩ e (F ++ A) (fun v H2 => ∃ H', R v H' ∧ H2 = F ++ H') := fun w hw => by
  refine opW_mono (x_callVF (F := A) (G := F) (A.map (·.1)) hx hc hv (fun _ hb => mem_fst hb) hf w (hw.perm List.perm_append_comm)) ?_
  rintro v w' ⟨H2, h2, H', hR, rfl⟩
  exact ⟨F ++ H', h2.perm List.perm_append_comm, H', hR, rfl⟩
end
end Go.VV
namespace Go.VV
open Go
section
variable {P : Program} {e : Env} {H : Heap}
theorem rets_cc {a b c d : Nat} {T U : TypeId} {l m : List Value} {w : World} (h : vnf (e a) = some (.pointer (some ⟨b, 0, none⟩))) (hs : aggB P T = true) (hn : sizeP P T = some l.length) (hr : Row w b 0 l)
    (h2 : vnf (e c) = some (.pointer (some ⟨d, 0, none⟩))) (hs2 : aggB P U = true) (hn2 : sizeP P U = some m.length) (hr2 : Row w d 0 m) :
    Rets P [.cell a T, .cell c U] e w (.tuple #[.agg l.toArray, .agg m.toArray]) := by
  have h := vnf_eq h
  have hl := run_loadCells_list (P := P) w ⟨b, 0, none⟩ l hr.add
  have h2 := vnf_eq h2
  have hl2 := run_loadCells_list (P := P) w ⟨d, 0, none⟩ m hr2.add
  simp [Rets, resOf, h, h2, asAddr, loadVar, Sem.run_bind, run_isAgg_a hs, run_sizeOf hn, run_isAgg_a hs2, run_sizeOf hn2, hl, hl2]
end
/-- The first entry goes behind some others. -/
theorem perm_down {w0 : World} {ms : List Nat} (A : Heap) {x : Nat × Obj} {R : Heap} : ∀ w, St w0 ms (x :: (A ++ R)) w → St w0 ms (A ++ x :: R) w := fun _ hw => hw.perm List.perm_middle.symm
theorem perm_up {w0 : World} {ms : List Nat} (A : Heap) {x : Nat × Obj} {R : Heap} : ∀ w, St w0 ms (A ++ x :: R) w → St w0 ms (x :: (A ++ R)) w := fun _ hw => hw.perm List.perm_middle
end Go.VV
namespace Go.VV
open Go Go.ChangeShapes Go.WideShapes Go.ChangeAt Go.RowKit

theorem below_of {W W' : World} {H : Heap} (h : St W [] H W') : Below W.heap.size W W' :=
  ⟨h.os, h.tape, h.output, h.size, fun k hk => h.block k hk (by simp)⟩

section
variable {H : Type} {enc : TypeId × Value → H} {P : Program} {W : World}

/-- All arguments at once: below the heap's old size nothing has turned. -/
theorem trodAll_below (hl : laidOutB P = true) {W' : World} (bel : Below W.heap.size W W') : ∀ {ts : List TypeId} {vs : List Value} {ds : List (DataW H)} {p : List MemPlace},
    (ts.all fun t => P.readableRec t && decide (t < P.types.size)) = true → DataW.TrodAll enc P W 0 (fun _ => true) true ts vs ds p →
    DataW.TrodAll enc P W' 0 (fun b => decide (b < W.heap.size)) true ts vs ds p
  | [], vs, ds, p, _, h => by
    obtain ⟨rfl, rfl, rfl⟩ := trodAll_nil h
    exact trodAll_mk0
  | t :: ts, vs, ds, p, hr, h => by
    simp only [List.all_cons, Bool.and_eq_true, decide_eq_true_eq] at hr
    obtain ⟨v, vs', d, ds', p1, q, rfl, rfl, rfl, h1, h2⟩ := trodAll_cons h
    have hlt : ∀ x ∈ p1, x.block < W.heap.size := by obtain ⟨m, hm⟩ := h1; exact DataW.trod_lt m _ _ _ hm
    exact trodAll_cons_mk (Below.trod hl hr.1.1 hr.1.2 h1 bel hlt) (trodAll_below hl bel hr.2 h2)

/-- A slice of numbers that came in. -/
theorem arg_ints {r : Reach} {b0 : Nat} {t e : TypeId} {k : IntKind} {v : Value} {d : DataW H} {p : List MemPlace} (ht : P.underlying t = some (.slice e)) (he : P.underlying e = some (.int k)) (hc : P.cellsOf e = 1)
    (hv : Value.okWide P W r b0 t v) (h : DataW.Trod enc P W 0 (fun _ => true) true t v d p) :
    ∃ (a : Option Addr) (c : Nat) (l : List Int), v = .slice a l.length c ∧ l.length ≤ c ∧ l.length ≤ maxLen ∧ (∀ x ∈ l, (Lit.int k x).wf = true) ∧ Ns W k a l := by
  obtain ⟨a, len, cap, rfl⟩ := okWide_slice ht hv
  obtain ⟨fuel, hf⟩ := h
  rcases open_ints ht he hc hf with ⟨hcs, _⟩ | ⟨x, l, c, zs, hcs, _, hl, hm, hz, _, hcell, hwz⟩
  · simp [Value.cells] at hcs
    obtain ⟨rfl, rfl, rfl⟩ := hcs
    exact ⟨none, 0, [], rfl, Nat.le_refl _, Nat.zero_le _, by simp, Ns.nil _ _ _⟩
  · simp [Value.cells] at hcs
    obtain ⟨rfl, rfl, rfl⟩ := hcs
    have hz' : zs.length = cap := by simpa using hz
    have hlen : (zs.take len).length = len := by rw [List.length_take]; omega
    refine ⟨some x, cap, zs.take len, by rw [hlen], by omega, by omega, fun y hy => hwz y (List.mem_of_mem_take hy), fun h0 => ?_⟩
    obtain ⟨b, off, spot⟩ := x
    have h1 := hcell 0 (by omega)
    have hspot : spot = none := by simpa [Addr.add] using World.cell?_spot h1
    subst hspot
    refine ⟨b, off, rfl, fun j v hv => ?_⟩
    rw [List.getElem?_map] at hv
    rw [List.getElem?_take] at hv
    split at hv
    · have hj : j < zs.length := by omega
      have := hcell j hj
      have hadd : (⟨b, off, none⟩ : Addr).add j = ⟨b, off + j, none⟩ := by unfold Addr.add; split <;> simp_all
      rw [hadd] at this
      rw [List.getElem?_eq_getElem hj] at hv
      simp only [Option.map_some, Option.some.injEq] at hv
      subst hv
      simpa [List.getD_eq_getElem?_getD, hj] using this
    · cases hv

theorem wf_u8 {x : Int} (h : (Lit.int .u8 x).wf = true) : 0 ≤ x ∧ x < 256 := by
  simp only [Lit.wf, Bool.and_eq_true, decide_eq_true_eq] at h
  have h1 : IntKind.u8.min = 0 := by decide
  have h2 : IntKind.u8.max = 255 := by decide
  omega
theorem wf_u16 {x : Int} (h : (Lit.int .u16 x).wf = true) : 0 ≤ x ∧ x < 65536 := by
  simp only [Lit.wf, Bool.and_eq_true, decide_eq_true_eq] at h
  have h1 : IntKind.u16.min = 0 := by decide
  have h2 : IntKind.u16.max = 65535 := by decide
  omega
theorem wf_i64 {x : Int} (h : (Lit.int .i64 x).wf = true) : -9223372036854775808 ≤ x ∧ x ≤ 9223372036854775807 := by
  simp only [Lit.wf, Bool.and_eq_true, decide_eq_true_eq] at h
  have h1 : IntKind.i64.min = -9223372036854775808 := by decide
  have h2 : IntKind.i64.max = 9223372036854775807 := by decide
  omega
theorem wf_u64 {x : Int} (h : (Lit.int .u64 x).wf = true) : 0 ≤ x ∧ x ≤ 18446744073709551615 := by
  simp only [Lit.wf, Bool.and_eq_true, decide_eq_true_eq] at h
  have h1 : IntKind.u64.min = 0 := by decide
  have h2 : IntKind.u64.max = 18446744073709551615 := by decide
  omega
theorem byts_of {l : List Int} (h : ∀ x ∈ l, (Lit.int .u8 x).wf = true) : Byts l := fun x hx => wf_u8 (h x hx)
/-- A field that is a number. -/
theorem arg_int {base : Nat} {spare : Nat → Bool} {held : Bool} {t : TypeId} {k : IntKind} {v : Value} {n : Nat} {y : DataW H × List MemPlace} (ht : P.underlying t = some (.int k)) (h : DataW.trod enc P W base spare held n t [v] = some y) :
    ∃ x, v = .int k x ∧ (Lit.int k x).wf = true := by
  obtain ⟨x, hcs, hx, hw⟩ := DataW.trod_int ht h
  simp at hcs
  exact ⟨x, hcs, hw⟩
end
end Go.VV
namespace Go.VV
open Go

theorem all_range_int : ∀ (xs ys : List Int), xs.length = ys.length → ((List.range xs.length).all fun i => xs.getD i 0 == ys.getD i 0) = (xs == ys)
  | [], [], _ => rfl
  | x :: xs, y :: ys, h => by
    have ih := all_range_int xs ys (by simpa using h)
    rw [List.length_cons, List.range_succ_eq_map, List.all_cons, List.all_map]
    simp only [List.getD_cons_zero, Function.comp_def, List.getD_cons_succ, ih]
    simp [List.cons_beq_cons]
  | [], _ :: _, h => by simp at h
  | _ :: _, [], h => by simp at h

section
variable {P : Program} (w : World)
theorem run_equalIn_ints (d : Nat) (t e : TypeId) (n : Nat) (kd : IntKind) (ht : P.underlying t = some (.array n e)) (he : P.underlying e = some (.int kd)) (hsz : ∀ w, (sizeOf e).run P w = .ok 1 w)
    (xs ys : List Int) (hx : xs.length = n) (hy : ys.length = n) :
    (Op.equalIn (d + 2) t (.agg (xs.map (Value.int kd)).toArray) (.agg (ys.map (Value.int kd)).toArray)).run P w = .ok (xs == ys) w := by
  rw [← all_range_int xs ys (hx.trans hy.symm), hx, List.range_eq_range', Op.equalIn]
  simp only [Sem.run_bind, run_underlying ht, Result.andThen_ok, hsz, Std.Legacy.Range.forIn_eq_forIn_range', Std.Legacy.Range.size, Nat.sub_zero, Nat.add_sub_cancel, Nat.div_one]
  have hl : ∀ i ∈ List.range' 0 n 1, i < n := fun i hi => by simpa using (List.mem_range'_1.1 hi).2
  generalize List.range' 0 n 1 = l at hl ⊢
  induction l with
  | nil => simp
  | cons i l ih =>
    have hi : i < n := hl i (by simp)
    have px : (part e (xs.map (Value.int kd)).toArray (i * 1)).run P w = .ok (.int kd (xs.getD i 0)) w := by
      simp [part, isAgg, run_underlying he, List.getD, List.getElem?_eq_getElem (show i < xs.length by omega)]
    have py : (part e (ys.map (Value.int kd)).toArray (i * 1)).run P w = .ok (.int kd (ys.getD i 0)) w := by
      simp [part, isAgg, run_underlying he, List.getD, List.getElem?_eq_getElem (show i < ys.length by omega)]
    have pe : (Op.equalIn (d + 1) e (.int kd (xs.getD i 0)) (.int kd (ys.getD i 0))).run P w = .ok (xs.getD i 0 == ys.getD i 0) w := run_equalIn_int w d e kd kd _ _ he
    simp only [List.forIn_cons, Sem.run_bind, px, py, pe, Result.andThen_ok, List.all_cons]
    cases hb : (xs.getD i 0 == ys.getD i 0)
    · simp
    · simp only [Bool.not_true, Bool.false_eq_true, if_false, Sem.run_pure, Result.andThen_ok, Bool.true_and]
      exact ih fun j hj => hl j (by simp [hj])

/-- '==' on two arrays of numbers. -/
theorem run_eqa {en : Env} {d : Option Nat} {x y : Operand} {t el u ty n : Nat} {kd : IntKind} {pos : String} {af : Array Edge} {g : Option (Nat × Bool)} {xs ys : List Int}
    (hx : ev en x = .agg (xs.map (Value.int kd)).toArray) (hy : ev en y = .agg (ys.map (Value.int kd)).toArray) (hu : arrP P t = some (n, el, 1)) (he : P.underlying el = some (.int kd))
    (hg : P.eqGuardType P.depth t = false) (hxl : xs.length = n) (hyl : ys.length = n) :
    (execOp (ev en) ⟨d, .binOp .eql t x y u, ty, pos, af, g⟩).run P w = .ok (.value (.bool (xs == ys))) w := by
  obtain ⟨h1, h2⟩ := arrP_spec hu
  have key := run_equalIn_ints (P := P) w 9998 t el n kd h1 he (fun w => run_sizeOf h2 w) xs ys hxl hyl
  have hb := run_eql_struct (P := P) w t (xs.map (Value.int kd)).toArray (ys.map (Value.int kd)).toArray
  simp only [execOp, hx, hy, Sem.run_bind]
  have hgd : (eqGuard .eql t x y (.agg (xs.map (Value.int kd)).toArray) (.agg (ys.map (Value.int kd)).toArray)).run P w = .ok () w := by
    simp [eqGuard, hg]
  rw [hgd]
  simp only [Result.andThen_ok]
  rw [hb, key]
  rfl
end
end Go.VV
namespace Go.VV
open Go

theorem St.put {w0 w : World} {ms : List Nat} {b : Nat} {o : Obj} {R : Heap} (h : St w0 ms ((b, o) :: R) w) (o' : Obj) : St w0 ms ((b, o') :: R) (w.putObj b o') :=
  h.turn rfl rfl rfl (by simp) (fun _ hk => World.putObj_heap_other hk) (World.putObj_heap_same (h.lt (x := (b, o)) (.head _)))

/-- A round's frame: that of the function at the loop, yield's arguments in their slots. -/
def roundEnv : List Nat → List Value → Env → Env
  | p :: ps, v :: vs, e => roundEnv ps vs (e.set p v)
  | _, _, e => e

structure LoopOf (n : Nat) (e0 : Env) (ps : List Nat) (assign body : Code) (rec : Loop) : Prop where
  ready : rec.state = .ready
  calm : rec.pending = none
  params : rec.params = ps.toArray
  assign : rec.assign = assign
  body : rec.body = body
  rep : Rep n [] e0 { tmps := rec.tmps, defers := [] }

abbrev inR (Γ : Ctx) (n lb : Nat) : Ctx := ⟨Γ.P, n, Γ.w0, Γ.ms, some lb, []⟩
abbrev busy (rec : Loop) : Loop := { rec with state := .busy }

/-- One round: the assignments, the body; 'K': what yield hands back, and the heap. -/
def Round (Γ : Ctx) (n lb : Nat) (rec : Loop) (ps : List Nat) (assign body : Code) (vs : List Value) (e0 : Env) (H : Heap) (K : Value → Heap → Prop) : Prop :=
  C (inR Γ n lb) assign ⟨fun e1 H1 => ∃ G1, (∀ w, St Γ.w0 Γ.ms H1 w → St Γ.w0 Γ.ms ((lb, .loop rec) :: G1) w) ∧
      C (inR Γ n lb) body ⟨fun _ H2 => ∃ G2, (∀ w, St Γ.w0 Γ.ms H2 w → St Γ.w0 Γ.ms ((lb, .loop (busy rec)) :: G2) w) ∧ K (.bool true) ((lb, .loop rec) :: G2),
        fun _ H2 => ∃ G2, (∀ w, St Γ.w0 Γ.ms H2 w → St Γ.w0 Γ.ms ((lb, .loop (busy rec)) :: G2) w) ∧ K (.bool false) ((lb, .loop { rec with state := .done, pending := some .ret }) :: G2), []⟩ e1 ((lb, .loop (busy rec)) :: G1),
    fun _ _ => False, []⟩ (roundEnv ps vs e0) H

theorem rep_params {n : Nat} : ∀ {ps : List Nat} {vs : List Value} {e : Env} {tmps : Array Value}, ps.all (fun p => Nat.blt p n) = true → Rep n [] e { tmps := tmps, defers := [] } →
    Rep n [] (roundEnv ps vs e) { tmps := (ps.zip vs).foldl (fun tmps (t, a) => tmps.setIfInBounds t a) tmps, defers := [] }
  | [], _, _, _, _, h => by simpa [roundEnv] using h
  | _ :: _, [], _, _, _, h => by simpa [roundEnv] using h
  | p :: ps, v :: vs, e, tmps, hp, h => by
    simp only [List.all_cons, Bool.and_eq_true] at hp
    simp only [roundEnv, List.zip_cons_cons, List.foldl_cons]
    exact rep_params hp.2 (h.put (d := some p) (by simpa [dstOk] using hp.1) v)

theorem round_in {Γ : Ctx} {n lb : Nat} {rec : Loop} {ps : List Nat} {assign body : Code} {vs : List Value} {e0 : Env} {H : Heap} {K : Value → Heap → Prop} {r : Option Nat}
    (hl : LoopOf n e0 ps assign body rec) (hp : ps.all (fun p => Nat.blt p n) = true) (h : Round Γ n lb rec ps assign body vs e0 H K) {w : World} (hw : St Γ.w0 Γ.ms H w) :
    RoundIn (Fr r) 0 Γ.P lb rec.fn ((rec.params.zip vs.toArray).foldl (fun tmps (t, a) => tmps.setIfInBounds t a) rec.tmps) rec.assign rec.body w
      (fun ex w' => ∃ v H', ex = .returned v ∧ St Γ.w0 Γ.ms H' w' ∧ K v H') := by
  refine roundIn_of_wpIn (F := Fr r) trivial ?_
  have hrep := rep_params (vs := vs) hp hl.rep
  have hz : (rec.params.zip vs.toArray).foldl (fun tmps (t, a) => tmps.setIfInBounds t a) rec.tmps = (ps.zip vs).foldl (fun tmps (t, a) => tmps.setIfInBounds t a) rec.tmps := by
    rw [hl.params, List.zip_toArray, List.foldl_toArray]
  rw [hz, hl.assign, hl.body]
  refine wpIn_mono (h _ w hrep hw) ?_
  rintro ex a1 w1 ⟨e1, H1, ha1, hw1, h1⟩
  cases ex <;> simp only [Kont.at, Exit.then, seek] at h1 ⊢
  case normal =>
    obtain ⟨G1, hG1, hb⟩ := h1
    have hw1 := hG1 _ hw1
    refine ⟨_, run_beginRound (hw1.holds (lb, _) (.head _)) hl.ready, ?_⟩
    refine wpIn_mono (hb a1 _ ha1 (hw1.put _)) ?_
    rintro ex a2 w2 ⟨e2, H2, _, hw2, h2⟩
    cases ex <;> simp only [Kont.at, roundPost, seek] at h2 ⊢
    case normal =>
      obtain ⟨G2, hG2, hk⟩ := h2
      have hw2 := hG2 _ hw2
      refine ⟨_, _, run_endRound none (hw2.holds (lb, _) (.head _)), ?_⟩
      refine ⟨_, _, rfl, hw2.put _, ?_⟩
      have : ({ busy rec with state := if (none : Option Code).isNone = true then LoopState.ready else LoopState.done, pending := none } : Loop) = rec := by
        have h1 := hl.ready
        have h2 := hl.calm
        cases rec
        simp only at h1 h2
        simp [h1, h2]
      rw [this]
      exact hk
    case ret =>
      obtain ⟨G2, hG2, hk⟩ := h2
      have hw2 := hG2 _ hw2
      refine ⟨_, _, run_endRound (some .ret) (hw2.holds (lb, _) (.head _)), ?_⟩
      exact ⟨_, _, rfl, hw2.put _, hk⟩

section
variable {Γ : Ctx} {k : Kont} {e : Env} {H G : Heap} {ops rest : List Oper} {d : Option Nat} {t : TypeId} {pos : String} {af : Array Edge} {g : Option (Nat × Bool)}

/-- 'yield(..)' in an iterator. -/
theorem l_yield {n lb : Nat} {rec : Loop} {ps : List Nat} {assign body : Code} {vs : List Value} {e0 : Env} {K : Value → Heap → Prop} {x : Operand} {l : List Operand} {ts : Array TypeId}
    (hx : vnf (ev e x) = some (.func (.yield lb) #[] #[])) (hv : evs e l = some vs) (hg : gdB ops e ⟨d, .call ⟨.value x, l.toArray, ts⟩, t, pos, af, g⟩ = true) (hd : dstOk Γ.n d = true)
    (hn : Nat.beq ps.length vs.length = true) (hp : ps.all (fun p => Nat.blt p n) = true) (hm : (lb, .loop rec) ∈ H)
    (hl : LoopOf n e0 ps assign body rec) (hR : Round Γ n lb rec ps assign body vs e0 H K)
    (hk : ∀ v H', K v H' → L1 Γ ops rest k (e.put d v) H') : L1 Γ ops (⟨d, .call ⟨.value x, l.toArray, ts⟩, t, pos, af, g⟩ :: rest) k e H := by
  intro a w ha hw
  unfold wpListIn
  rw [gdB_eq ha, if_pos hg]
  refine ⟨fun _ _ => trivial, ?_⟩
  rw [Oper.semAt_eq _ _ _ (fun c => by simp), ha.eval]
  have hx := vnf_eq hx
  have hsz : (vs.toArray).size = rec.params.size := by rw [hl.params]; simp; exact (Nat.eq_of_beq_eq_true hn).symm
  have hmap : (List.toArray l).map (ev e) = vs.toArray := by rw [← evs_eq hv]; simp
  have hrun : (execOp (ev e) ⟨d, .call ⟨.value x, l.toArray, ts⟩, t, pos, af, g⟩).run Γ.P w =
      .ok (.round lb rec.fn ((rec.params.zip vs.toArray).foldl (fun tmps (t, a) => tmps.setIfInBounds t a) rec.tmps) rec.assign rec.body) w := by
    have hy := run_yield (P := Γ.P) (w := w) (r := rec) (args := vs.toArray) (hw.holds _ hm) hsz
    simp only [execOp, resolve, hmap, hx, Deferred.ofValue, invoke, pure_bind, Array.empty_append]
    exact hy
  rw [hrun]
  refine ⟨fun h => (by cases h), RoundIn.mono (round_in hl hp hR hw) ?_⟩
  rintro ex w' ⟨v, H', rfl, hw', hK⟩
  exact hk v H' hK _ _ (ha.put hd v) hw'
end

/-! ### the function that holds the loop -/
/-- The rest of a body, to its end. -/
def T (Γ : Ctx) (fn : Func) (R : Value → Heap → Prop) (c : Code) (e : Env) (H : Heap) : Prop :=
  ∀ a w, Rep Γ.n Γ.D e a → St Γ.w0 Γ.ms H w → c.wpIn (Fr Γ.r) 0 Γ.P (bodyPostM (Fr none) 0 Γ.P fn (fun ex w' => ∃ v H, ex = .returned v ∧ St Γ.w0 Γ.ms H w' ∧ R v H)) a w
def T2 (Γ : Ctx) (fn : Func) (R : Value → Heap → Prop) (y z : Code) (e : Env) (H : Heap) : Prop :=
  ∀ a w, Rep Γ.n Γ.D e a → St Γ.w0 Γ.ms H w →
    y.wpIn (Fr Γ.r) 0 Γ.P (Exit.then (z.wpIn (Fr Γ.r) 0 Γ.P (bodyPostM (Fr none) 0 Γ.P fn (fun ex w' => ∃ v H, ex = .returned v ∧ St Γ.w0 Γ.ms H w' ∧ R v H)))
      (bodyPostM (Fr none) 0 Γ.P fn (fun ex w' => ∃ v H, ex = .returned v ∧ St Γ.w0 Γ.ms H w' ∧ R v H))) a w

theorem does_of_T {P : Program} {f : Nat} {fn : Func} {c : Code} {args : List Value} {w : World} {ms : List Nat} {R : Value → Heap → Prop} {n : Nat} {H : Heap}
    (hf : P.funcs[f]? = some fn) (hb : fn.body = some c) (hn : fn.ntmps = n) (hl : Nat.ble args.length n = true) (hH : St w ms H w)
    (h : T ⟨P, n, w, ms, none, []⟩ fn R c (init args) H) : Does P f args w ms R := by
  subst hn
  have hl' : args.length ≤ fn.ntmps := Nat.le_of_ble_eq_true hl
  exact (callsIn_wide (n := 0)).1 (callsIn_of_wp_marks hf hb trivial (h _ w (rep_init hl') hH))

section
variable {Γ : Ctx} {fn : Func} {R : Value → Heap → Prop} {e : Env} {H : Heap}

/-- What a body's end asks where nothing is deferred. -/
theorem post_ends (hD : Γ.D = []) {ex : Exit} {a : Act} {w : World} {e : Env} {H : Heap} (hex : ex = .normal ∨ ex = .ret) (ha : Rep Γ.n Γ.D e a) (hw : St Γ.w0 Γ.ms H w) (h : Ends Γ fn.results.toList R e H) :
    bodyPostM (Fr none) 0 Γ.P fn (fun ex w' => ∃ v H, ex = .returned v ∧ St Γ.w0 Γ.ms H w' ∧ R v H) ex a w := by
  obtain ⟨v, H', g1, g2, g3⟩ := h w hw
  have hd : a.defers = [] := by rw [ha.defers, hD]
  have key : LeavesInM (Fr none) 0 Γ.P fn a.tmps (fun ex w' => ∃ v H, ex = .returned v ∧ St Γ.w0 Γ.ms H w' ∧ R v H) a.defers .returning w := by
    rw [hd]
    exact ⟨v, by rw [results_eq ha]; exact g1, v, H', rfl, g2, g3⟩
  rcases hex with rfl | rfl <;> exact key

theorem t_seq {x y : Code} (hD : Γ.D = []) (h : C Γ x ⟨fun e L => T Γ fn R y e L, Ends Γ fn.results.toList R, []⟩ e H) : T Γ fn R (.seq x y) e H := by
  intro a w ha hw
  refine wpIn_seq (wpIn_mono (h a w ha hw) ?_)
  rintro ex a' w' ⟨e', L', h1, h2, h3⟩
  cases ex <;> simp only [Kont.at, Exit.then, seek] at h3 ⊢
  case normal => exact h3 a' w' h1 h2
  case ret => exact post_ends hD (.inr rfl) h1 h2 h3

theorem t_seq2 {x y z : Code} (hD : Γ.D = []) (h : C Γ x ⟨fun e L => T2 Γ fn R y z e L, Ends Γ fn.results.toList R, []⟩ e H) : T Γ fn R (.seq (.seq x y) z) e H := by
  intro a w ha hw
  refine wpIn_seq (wpIn_seq (wpIn_mono (h a w ha hw) ?_))
  rintro ex a' w' ⟨e', L', h1, h2, h3⟩
  cases ex <;> simp only [Kont.at, Exit.then, seek] at h3 ⊢
  case normal => exact h3 a' w' h1 h2
  case ret => exact post_ends hD (.inr rfl) h1 h2 h3

/-- Behind the loop: the mark is taken up at the end. -/
theorem t_last {c : Code} {D0 : Nat} (hD : Γ.D = [{ target := .collected D0, args := #[] }])
    (h : C Γ c ⟨fun e H => ∃ G, (∀ w, St Γ.w0 Γ.ms H w → St Γ.w0 Γ.ms ((D0, .deferred (some [])) :: G) w) ∧ Ends Γ fn.results.toList R e G,
      fun e H => ∃ G, (∀ w, St Γ.w0 Γ.ms H w → St Γ.w0 Γ.ms ((D0, .deferred (some [])) :: G) w) ∧ Ends Γ fn.results.toList R e G, []⟩ e H) : T Γ fn R c e H := by
  intro a w ha hw
  refine wpIn_mono (h a w ha hw) ?_
  have key : ∀ (e' : Env) (a' : Act) (w' : World) (L' : Heap), Rep Γ.n Γ.D e' a' → St Γ.w0 Γ.ms L' w' →
      (∃ G, (∀ w, St Γ.w0 Γ.ms L' w → St Γ.w0 Γ.ms ((D0, .deferred (some [])) :: G) w) ∧ Ends Γ fn.results.toList R e' G) →
      LeavesInM (Fr none) 0 Γ.P fn a'.tmps (fun ex w' => ∃ v H, ex = .returned v ∧ St Γ.w0 Γ.ms H w' ∧ R v H) a'.defers .returning w' := by
    rintro e' a' w' L' h1 h2 ⟨G, hG, hE⟩
    have hw2 := hG _ h2
    have hd : a'.defers = [{ target := .collected D0, args := #[] }] := by rw [h1.defers, hD]
    rw [hd]
    have hw3 : St Γ.w0 Γ.ms G (w'.putObj D0 (.deferred none)) := (hw2.put (.deferred none)).sub (List.sublist_cons_self _ _)
    obtain ⟨v, H', g1, g2, g3⟩ := hE _ hw3
    refine ⟨by simp, .inl ⟨D0, _, rfl, run_takeDeferred (hw2.holds (D0, _) (.head _)), ?_⟩⟩
    exact ⟨v, by rw [results_eq h1]; exact g1, v, H', rfl, g2, g3⟩
  rintro ex a' w' ⟨e', L', h1, h2, h3⟩
  cases ex <;> simp only [Kont.at, seek] at h3 ⊢
  case normal => exact key e' a' w' L' h1 h2 h3
  case ret => exact key e' a' w' L' h1 h2 h3

/-- THE STATEMENT 'for .. := range f { .. }'; no round leaves the loop. -/
theorem t_range {id : Nat} {x : Operand} {ps : List Nat} {assign body z : Code} {f : Nat} {A B : List Value} (hr : Γ.r = none) (hD : Γ.D = [])
    (hx : vnf (ev e x) = some (.func (.func f) A.toArray B.toArray)) (hc : callable Γ.P f = true)
    (h : ∀ (w : World) (D0 lb : Nat) (rec : Loop), D0 = w.heap.size → lb = D0 + 1 → LoopOf Γ.n e ps assign body rec →
      ∀ w2, St Γ.w0 Γ.ms ((lb, .loop rec) :: (D0, .deferred (some [])) :: H) w2 → ∃ F G ms2 R2,
        (∀ w, St Γ.w0 Γ.ms ((lb, .loop rec) :: (D0, .deferred (some [])) :: H) w → St Γ.w0 Γ.ms (F ++ G) w) ∧ (∀ b ∈ ms2, ∃ o, (b, o) ∈ F) ∧
        Does Γ.P f (A ++ .func (.yield lb) #[] #[] :: B) w2 ms2 R2 ∧
        ∀ v H', R2 v H' → ∃ rec' G2, (∀ w, St Γ.w0 Γ.ms (H' ++ G) w → St Γ.w0 Γ.ms ((lb, .loop rec') :: G2) w) ∧ rec'.state ≠ .busy ∧ rec'.pending = none ∧
          T ⟨Γ.P, Γ.n, Γ.w0, Γ.ms, none, [{ target := .collected D0, args := #[] }]⟩ fn R z e ((lb, .loop { rec' with state := .exhausted }) :: G2)) :
    T2 Γ fn R (.block id (.rangeFunc x ps.toArray assign body)) z e H := by
  obtain ⟨P, n, w0, ms, r, D⟩ := Γ
  simp only at hr hD
  subst hr hD
  intro a w ha hw
  refine wpIn_block ?_
  refine wpIn_rangeFunc fun fno _ => ?_
  have he := run_enterLoop_outer (P := P) (w := w) fno a.tmps ps.toArray assign body
  have hw2 : St w0 ms ((w.heap.size + 1, .loop { state := .ready, pending := none, fn := fno, tmps := a.tmps, params := ps.toArray, assign, body, defers := w.heap.size }) :: (w.heap.size, .deferred (some [])) :: H)
      ((w.alloc (.deferred (some []))).alloc (.loop { state := .ready, pending := none, fn := fno, tmps := a.tmps, params := ps.toArray, assign, body, defers := w.heap.size })) := by
    have h1 := (hw.alloc (.deferred (some []))).alloc (.loop { state := .ready, pending := none, fn := fno, tmps := a.tmps, params := ps.toArray, assign, body, defers := w.heap.size })
    simpa using h1
  have hda : a.defers = [] := by rw [ha.defers]
  have hlo : LoopOf n e ps assign body { state := .ready, pending := none, fn := fno, tmps := a.tmps, params := ps.toArray, assign, body, defers := w.heap.size } :=
    ⟨rfl, rfl, rfl, rfl, rfl, ⟨rfl, ha.size, ha.look⟩⟩
  obtain ⟨F, G, ms2, R2, hFG, hms, hdo, hrest⟩ := h w _ _ _ rfl rfl hlo _ hw2
  have hx := vnf_eq hx
  have hcall : (invoke (.fn (.func f) B.toArray) (A.toArray ++ #[.func (.yield (w.heap.size + 1)) #[] #[]])).run P
      ((w.alloc (.deferred (some []))).alloc (.loop { state := .ready, pending := none, fn := fno, tmps := a.tmps, params := ps.toArray, assign, body, defers := w.heap.size })) =
      .ok (.enter f (A ++ .func (.yield (w.heap.size + 1)) #[] #[] :: B).toArray) ((w.alloc (.deferred (some []))).alloc (.loop { state := .ready, pending := none, fn := fno, tmps := a.tmps, params := ps.toArray, assign, body, defers := w.heap.size })) := by
    unfold callable at hc
    split at hc
    · rename_i fn' hf
      simp only [Bool.and_eq_true, Bool.not_eq_true'] at hc
      obtain ⟨h1, h2⟩ := hc
      have hs : (program : Sem Program) = .program .pure := rfl
      have h3 : ¬ fn'.name = "runtime.NumGoroutine" := by simpa using h1
      have h4 : ¬ fn'.body = none := by
        intro hx; rw [hx] at h2; cases h2
      simp [invoke, callFunc, bind, Sem.bind, Sem.run, hf, h3, h4, pure, hs]
    · cases hc
  have hev : a.eval x = .func (.func f) A.toArray B.toArray := by rw [ha.eval]; exact hx
  refine ⟨w.heap.size + 1, _, _, { target := .fn (.func f) B.toArray, args := A.toArray ++ #[.func (.yield (w.heap.size + 1)) #[] #[]] }, _, f, _, _, he, ?_, fun _ _ => trivial, hcall, fun h => (by cases h), calls_in (Calls.mono hdo ?_)⟩
  · have hk : a.eval (.const (.func (.yield (w.heap.size + 1)) #[] #[])) = .func (.yield (w.heap.size + 1)) #[] #[] := by rw [ha.eval]; rfl
    simp only [resolve, hev, hk, Deferred.ofValue, List.map_toArray, List.map_cons, List.map_nil, Sem.run_pure]
  · rintro ex w3 ⟨v, H', rfl, hw3, hR2⟩
    obtain ⟨rec', G2, hG2, hb, hpn, hT⟩ := hrest v H' hR2
    have hw4 := hG2 _ ((hFG _ hw2).call hms hw3)
    refine ⟨none, w3.putObj (w.heap.size + 1) (.loop { rec' with state := .exhausted }), ?_, ?_⟩
    · have := run_endLoop (P := P) (hw4.holds (w.heap.size + 1, _) (.head _)) hb
      exact this.trans (by rw [hpn])
    · simp only [Exit.inBlock, Exit.then]
      refine hT _ _ ⟨?_, ha.size, ha.look⟩ (hw4.put _)
      simp [hda]
end
end Go.VV
namespace Go.VV
open Go

section
variable {P : Program} {Γ : Ctx} {k : Kont} {e : Env} {H H' : Heap} {ops rest : List Oper} {d : Option Nat} {ty : TypeId} {pos : String} {af : Array Edge} {g : Option (Nat × Bool)}
  {S : World → Prop} {need : List Nat} {pl : Plan}

theorem l_heap (hs : ∀ w, St Γ.w0 Γ.ms H w → St Γ.w0 Γ.ms H' w) (h : L1 Γ ops rest k e H') : L1 Γ ops rest k e H := fun a w ha hw => h a w ha (hs w hw)
theorem d_heap (hs : ∀ w, St Γ.w0 Γ.ms H w → St Γ.w0 Γ.ms H' w) (h : L2 Γ ops S need pl k e H') : L2 Γ ops S need pl k e H := fun a w ha hw => h a w ha (hs w hw)
/-- The second part first. -/
theorem perm2 {w0 w : World} {ms : List Nat} (A B R : Heap) (h : St w0 ms (A ++ (B ++ R)) w) : St w0 ms (B ++ (A ++ R)) w := h.perm (by
  rw [← List.append_assoc, ← List.append_assoc]
  exact List.Perm.append_right R List.perm_append_comm)

/-- append(s, x..): there is room for it. -/
theorem x_appendR {t : TypeId} {x y : Operand} {T s by_ : Nat} {u : Value} {b n cp m : Nat} {l ys : List Value} {ts : Array TypeId} (i : Nat)
    (hx : vnf (ev e x) = some (.slice (some ⟨b, 0, none⟩) n cp)) (hy : ev e y = u) (hts : ts = #[t, t]) (hp : appP Γ.P t = some (T, s, by_)) (hi : H[i]? = some (b, blk l T))
    (hs : ∀ w, St Γ.w0 Γ.ms H w → Src w s u m ys) (h1 : ones ys = true) (hroom : n + m ≤ cp) (hfit : n * s + ys.length ≤ l.length) :
    Op1 Γ ⟨d, .call ⟨.builtin .append, #[x, y], ts⟩, ty, pos, af, g⟩ e H (fun v' H' => v' = .slice (some ⟨b, 0, none⟩) (n + m) cp ∧ H' = H.set i (b, blk (putL l (n * s) ys) T)) := by
  intro w hw
  subst hts hy
  have hx := vnf_eq hx
  unfold appP at hp
  split at hp <;> try cases hp
  rename_i el hu
  split at hp <;> try cases hp
  rename_i ti hti
  split at hp <;> try cases hp
  rename_i z hz
  split at hp <;> try cases hp
  have hg : w.heap[b]? = some (blk l T) := hw.own_blk (List.mem_of_getElem? hi)
  have hs' := hs w hw
  generalize hue : ev e y = u at hs'
  cases hs' with
  | row b2 off2 m c ys hn hr =>
    have h3 := run_append_room (P := Γ.P) w t ty T ti hu hti b n cp l.toArray hg ⟨b2, off2, none⟩ m c ys hn hr.add (by simpa [ones] using h1) hroom (by simpa using hfit)
    refine opW_run (v := .slice (some ⟨b, 0, none⟩) (n + m) cp) (w' := w.setRow b (putL l (n * ti.size) ys).toArray) ?_ ⟨_, ?_, rfl, rfl⟩
    · simp only [execOp, resolve, Sem.run_bind, Sem.run_pure, Result.andThen_ok, invoke, builtin, List.map_toArray, List.map_cons, List.map_nil, hx, hue, h3]
      rfl
    · exact hw.setAt hi rfl rfl rfl (by simp [World.setRow]) (fun k hk => setRow_other w b k _ hk) (setRow_heap w b _ _ T _ hg)

/-- append(s, nil..). -/
theorem x_append0 {t : TypeId} {x y : Operand} {T s by_ : Nat} {a : Option Addr} {n cp : Nat} {ts : Array TypeId}
    (hx : vnf (ev e x) = some (.slice a n cp)) (hy : vnf (ev e y) = some (.slice none 0 0)) (hts : ts = #[t, t]) (hp : appP Γ.P t = some (T, s, by_)) (hn : n ≤ cp) :
    Op1 Γ ⟨d, .call ⟨.builtin .append, #[x, y], ts⟩, ty, pos, af, g⟩ e H (fun v' H' => v' = .slice a n cp ∧ H' = H) := by
  intro w hw
  subst hts
  have hx := vnf_eq hx
  have hy := vnf_eq hy
  unfold appP at hp
  split at hp <;> try cases hp
  rename_i el hu
  split at hp <;> try cases hp
  rename_i ti hti
  split at hp <;> try cases hp
  rename_i z hz
  split at hp <;> try cases hp
  have key : (Builtin.append_ #[t, t] ty #[.slice a n cp, .slice none 0 0]).run Γ.P w = .ok (.slice a n cp) w := by
    cases a with
    | none => simp [Builtin.append_, run_underlying hu, sizeOf, typeInfo, hti, Builtin.lenOf, Builtin.firstCells, hn]
    | some p =>
      simp [Builtin.append_, run_underlying hu, sizeOf, typeInfo, hti, Builtin.lenOf, Builtin.firstCells, hn, storeCells]
  refine opW_run (v := .slice a n cp) (w' := w) ?_ ⟨_, hw, rfl, rfl⟩
  simp only [execOp, resolve, Sem.run_bind, Sem.run_pure, Result.andThen_ok, invoke, builtin, List.map_toArray, List.map_cons, List.map_nil, hx, hy, key]

theorem zeroCells_eq (z : List Value) (n : Nat) : (Builtin.zeroCells z.toArray n).toList = repL (n * z.length) z := by
  unfold Builtin.zeroCells
  have := repL_eq (n * z.length) z
  simp only [List.size_toArray] at this ⊢
  rw [this]
theorem repL_len (n : Nat) (z : List Value) : (repL n z).length = n := by simp [repL]
theorem repL_ones {n : Nat} {z : List Value} (hz : ones z = true) (hl : 0 < z.length) : ones (repL n z) = true := by
  refine List.all_eq_true.2 fun x hx => ?_
  simp only [repL, List.mem_map] at hx
  obtain ⟨i, _, rfl⟩ := hx
  have hi : i % z.length < z.length := Nat.mod_lt _ hl
  rw [List.getD_eq_getElem?_getD, List.getElem?_eq_getElem hi, Option.getD_some]
  exact List.all_eq_true.1 hz _ (List.getElem_mem _)

/-- clear(s). -/
theorem x_clear {t el : TypeId} {x : Operand} {s b off n c : Nat} {z l : List Value} {T : TypeId} {ts : Array TypeId} (i : Nat)
    (hx : vnf (ev e x) = some (.slice (some ⟨b, off, none⟩) n c)) (hts : ts = #[t]) (hu : slcP Γ.P t = some (el, s)) (hz : zeroP Γ.P el = some z) (hzl : Nat.blt 0 z.length = true) (h1 : ones z = true)
    (hi : H[i]? = some (b, blk l T)) (hn : 0 < n) (hl : off + n * z.length ≤ l.length) :
    Op1 Γ ⟨d, .call ⟨.builtin .clear, #[x], ts⟩, ty, pos, af, g⟩ e H (fun v' H' => v' = .tuple #[] ∧ H' = H.set i (b, blk (putL l off (repL (n * z.length) z)) T)) := by
  intro w hw
  subst hts
  obtain ⟨g1, g2⟩ := slcP_spec hu
  have hx := vnf_eq hx
  have hg : w.heap[b]? = some (blk l T) := hw.own_blk (List.mem_of_getElem? hi)
  obtain ⟨zv, hzv, hzc⟩ := run_zero hz w
  have hzl : 0 < z.length := Nat.lt_of_lt_of_le Nat.zero_lt_one (Nat.le_of_ble_eq_true hzl)
  have hst := run_storeCells_at Γ.P b off T (repL (n * z.length) z) 0 l.toArray w hg (by rw [repL_len]; simpa using hl) (by simpa [ones] using repL_ones (n := n * z.length) h1 hzl)
  simp only [Nat.add_zero] at hst
  have hn0 : n ≠ 0 := by omega
  have key : (Builtin.clear_ #[t] ty #[.slice (some ⟨b, off, none⟩) n c]).run Γ.P w = .ok (.tuple #[]) (w.setRow b (putL l off (repL (n * z.length) z)).toArray) := by
    obtain ⟨n', rfl⟩ : ∃ n', n = n' + 1 := ⟨n - 1, by omega⟩
    simp [Builtin.clear_, Sem.run_bind, run_underlying g1, hzv, hzc, zeroCells_eq, hst, putL]
  refine opW_run (v := .tuple #[]) (w' := w.setRow b (putL l off (repL (n * z.length) z)).toArray) ?_ ⟨_, ?_, rfl, rfl⟩
  · simp only [execOp, resolve, Sem.run_bind, Sem.run_pure, Result.andThen_ok, invoke, builtin, List.map_toArray, List.map_cons, List.map_nil, hx, key]
  · exact hw.setAt hi rfl rfl rfl (by simp [World.setRow]) (fun k hk => setRow_other w b k _ hk) (setRow_heap w b _ _ T _ hg)

/-- s[l:h:m]. -/
theorem cut3_slice {t : TypeId} {x : Operand} {lo hi mx : Operand} {b off n c el s : Nat} {jl jh jm : Int} (l h m : Nat) (hx : vnf (ev e x) = some (.slice (some ⟨b, off, none⟩) n c))
    (hu : slcP P t = some (el, s)) (hlo : bndF e (some lo) = some (some jl)) (hhi : bndF e (some hi) = some (some jh)) (hmx : bndF e (some mx) = some (some jm)) (hl : jl = (l : Int)) (hh : jh = (h : Int)) (hm : jm = (m : Int))
    (h1 : l ≤ h) (h2 : h ≤ m) (h3 : m ≤ c) :
    light P e ⟨d, .slice t x (some lo) (some hi) (some mx), ty, pos, af, g⟩ = some (.slice (some ⟨b, cutAt off l s m, none⟩) (h - l) (m - l)) := by
  obtain ⟨g1, g2⟩ := slcP_spec hu
  have hx := vnf_eq hx
  refine light_of_pure ?_ rfl
  have hb : Instr.sliceBounds true n c (some (ev e lo)) (some (ev e hi)) (some (ev e mx)) = pure (l, h, m) := by
    simp only [Instr.sliceBounds, bound_run hmx hm h3, bound_run hhi hh h2, bound_run hlo hl h1, pure_bind, Option.isSome_some, if_true]
  simp only [execOp, hx, Instr.sliceAt, Instr.slice, bind_assoc, pure_underlying g1, Option.map_some, hb, pure_pure, pure_size g2]
  unfold cutAt
  by_cases hcl : m = l
  · simp only [hcl, if_true]; rfl
  · simp only [hcl, if_false, add_mk]; rfl
end
end Go.VV
namespace Go.VV
open Go

/-- Parts, one behind the other. -/
def fl : List Heap → Heap
  | [] => []
  | [a] => a
  | a :: b :: r => a ++ fl (b :: r)
theorem fl_cons (a : Heap) (cs : List Heap) : fl (a :: cs) = a ++ fl cs := by
  cases cs with
  | nil => simp [fl]
  | cons b r => rfl
theorem fl_eq : ∀ (cs : List Heap), fl cs = cs.flatten
  | [] => rfl
  | a :: cs => by rw [fl_cons, fl_eq cs, List.flatten_cons]

theorem flatten_perm {α : Type} {a b : List (List α)} (h : a.Perm b) : a.flatten.Perm b.flatten := by
  induction h with
  | nil => exact .refl _
  | cons x _ ih => simpa using ih.append_left x
  | swap x y l =>
    simp only [List.flatten_cons]
    rw [← List.append_assoc, ← List.append_assoc]
    exact List.Perm.append_right _ List.perm_append_comm
  | trans _ _ ih1 ih2 => exact ih1.trans ih2
theorem flatten_sub {α : Type} {a b : List (List α)} (h : a.Sublist b) : a.flatten.Sublist b.flatten := by
  induction h with
  | slnil => exact .refl _
  | cons x _ ih => rw [List.flatten_cons]; exact ih.trans (List.sublist_append_right _ _)
  | cons_cons x _ ih => rw [List.flatten_cons, List.flatten_cons]; exact (List.Sublist.refl _).append ih

/-- Numbers, each at most once, of what there are. -/
def ixB (n : Nat) : List Nat → Bool
  | [] => true
  | i :: r => Nat.blt i n && !(r.any (Nat.beq i)) && ixB n r
theorem ix_perm {α : Type} : ∀ (ix : List Nat) (cs : List α), ixB cs.length ix = true → ∃ rest, cs.Perm (ix.filterMap (cs[·]?) ++ rest) := by
  intro ix cs h
  have hnd : ix.Nodup ∧ ∀ i ∈ ix, i < cs.length := by
    induction ix with
    | nil => exact ⟨List.nodup_nil, fun _ h => by cases h⟩
    | cons i r ih =>
      simp only [ixB, Bool.and_eq_true, Bool.not_eq_true'] at h
      obtain ⟨⟨h1, h2⟩, h3⟩ := h
      obtain ⟨g1, g2⟩ := ih h3
      refine ⟨List.nodup_cons.2 ⟨fun hm => ?_, g1⟩, fun j hj => ?_⟩
      · have : r.any (Nat.beq i) = true := List.any_eq_true.2 ⟨i, hm, Nat.beq_refl i⟩
        rw [this] at h2; cases h2
      · rcases List.mem_cons.1 hj with rfl | hj
        · exact Nat.lt_of_lt_of_le (Nat.lt_succ_self _) (Nat.le_of_ble_eq_true h1)
        · exact g2 j hj
  have hall : cs = (List.range cs.length).filterMap (cs[·]?) := by
    clear h hnd
    induction cs with
    | nil => rfl
    | cons x L ih =>
      rw [List.length_cons, List.range_succ_eq_map, List.filterMap_cons]
      simp only [List.getElem?_cons_zero, List.filterMap_map, Function.comp_def, List.getElem?_cons_succ]
      rw [← ih]
  refine ⟨((List.range cs.length).filter (fun i => !ix.contains i)).filterMap (cs[·]?), ?_⟩
  conv => lhs; rw [hall]
  rw [← List.filterMap_append]
  refine List.Perm.filterMap _ ?_
  rw [List.perm_ext_iff_of_nodup List.nodup_range (List.nodup_append.2 ⟨hnd.1, List.nodup_range.filter _, fun a ha b hb => by rintro rfl; simp at hb; exact hb.2 ha⟩)]
  intro a
  simp only [List.mem_range, List.mem_append, List.mem_filter, Bool.not_eq_true', List.contains_eq_mem, decide_eq_false_iff_not]
  constructor
  · intro ha
    by_cases hm : a ∈ ix
    · exact .inl hm
    · exact .inr ⟨ha, hm⟩
  · rintro (hm | hm)
    · exact hnd.2 a hm
    · exact hm.1

/-- Some of the parts, in another order. -/
theorem St.fl {w0 w : World} {ms : List Nat} (cs : List Heap) (ix : List Nat) (hp : ixB cs.length ix = true) (h : St w0 ms (VV.fl cs) w) : St w0 ms (VV.fl (ix.filterMap (cs[·]?))) w := by
  obtain ⟨rest, hr⟩ := ix_perm ix cs hp
  rw [fl_eq] at h ⊢
  exact (h.perm (flatten_perm hr)).sub (by rw [List.flatten_append]; exact List.sublist_append_left _ _)
/-- .. out of nested parts. -/
theorem St.as {w0 w : World} {ms : List Nat} {L L' : Heap} (h : St w0 ms L w) (he : L = L') : St w0 ms L' w := he ▸ h
end Go.VV
namespace Go.VV
open Go Go.ChangeShapes Go.WideShapes Go.ChangeAt Go.RowKit

/-- What a cell is. -/
inductive CK where
  | int (k : IntKind)
  | bool
  | str
def ckOk : CK → Value → Prop
  | .int k, v => ∃ n, v = .int k n ∧ (Lit.int k n).wf = true
  | .bool, v => ∃ b, v = .bool b
  | .str, v => ∃ s : ByteArray, v = .string s ∧ s.size ≤ maxLen
/-- Cell by cell. -/
def Cks : List CK → List Value → Prop
  | [], [] => True
  | k :: ks, v :: vs => ckOk k v ∧ Cks ks vs
  | _, _ => False
theorem Cks.app : ∀ {a b : List CK} {x y : List Value}, Cks a x → Cks b y → Cks (a ++ b) (x ++ y)
  | [], _, [], _, _, h => h
  | _ :: _, _, _ :: _, _, h, h2 => ⟨h.1, Cks.app h.2 h2⟩
  | [], _, _ :: _, _, h, _ => h.elim
  | _ :: _, _, [], _, h, _ => h.elim
theorem Cks.len : ∀ {a : List CK} {x : List Value}, Cks a x → a.length = x.length
  | [], [], _ => rfl
  | _ :: _, _ :: _, h => by simp [Cks.len h.2]
  | [], _ :: _, h => h.elim
  | _ :: _, [], h => h.elim

section
variable (P : Program)
def kindsF (f : TypeId → Option (List CK)) : List Field → Nat → Option (List CK)
  | [], _ => some []
  | fd :: r, off => match f fd.type with
    | some ks => bif Nat.beq fd.offset off && Nat.beq (P.cellsOf fd.type) ks.length then (match kindsF f r (off + ks.length) with
      | some rs => some (ks ++ rs)
      | none => none) else none
    | none => none
def kinds : Nat → TypeId → Option (List CK)
  | 0, _ => none
  | n + 1, t => match P.underlying t with
    | some (.int k) => some [.int k]
    | some .bool => some [.bool]
    | some .string => some [.str]
    | some (.struct ⟨fs⟩) => match kindsF P (kinds n) fs 0 with
      | some ks => bif Nat.beq (P.cellsOf t) ks.length then some ks else none
      | none => none
    | _ => none
end

section
variable {H : Type} {enc : TypeId × Value → H} {P : Program} {W : World} {base : Nat} {spare : Nat → Bool} {held : Bool}
theorem kindsF_ok {f : TypeId → Option (List CK)} {n : Nat} {cs : List Value} (hf : ∀ {t : TypeId} {ks : List CK} {xs : List Value} {y : DataW H × List MemPlace}, f t = some ks → DataW.trod enc P W base spare held n t xs = some y → Cks ks xs) :
    ∀ (fs : List Field) (off : Nat) (ks : List CK), kindsF P f fs off = some ks → (∀ fd ∈ fs, ∃ y, DataW.trod enc P W base spare held n fd.type ((cs.drop fd.offset).take (P.cellsOf fd.type)) = some y) → Cks ks ((cs.drop off).take ks.length)
  | [], off, ks, h, _ => by cases h; simp [Cks]
  | fd :: r, off, ks, h, hy => by
    simp only [kindsF] at h
    split at h
    · rename_i k1 hk1
      by_cases hb : (Nat.beq fd.offset off && Nat.beq (P.cellsOf fd.type) k1.length) = true
      · rw [hb, cond_true] at h
        simp only [Bool.and_eq_true] at hb
        have h1 := Nat.eq_of_beq_eq_true hb.1
        have h2 := Nat.eq_of_beq_eq_true hb.2
        split at h
        · rename_i rs hrs
          cases h
          obtain ⟨y, hy1⟩ := hy fd (.head _)
          have a1 := hf hk1 hy1
          have a2 := kindsF_ok hf r _ rs hrs fun g hg => hy g (.tail _ hg)
          rw [h1, h2] at a1
          rw [List.length_append, List.take_add, List.drop_drop]
          exact a1.app a2
        · cases h
      · simp only [Bool.not_eq_true] at hb
        rw [hb, cond_false] at h
        cases h
    · cases h
theorem kinds_ok : ∀ (m : Nat) {n : Nat} {t : TypeId} {ks : List CK} {cs : List Value} {y : DataW H × List MemPlace}, kinds P m t = some ks → DataW.trod enc P W base spare held n t cs = some y → Cks ks cs
  | 0, _, _, _, _, _, h, _ => by cases h
  | m + 1, n, t, ks, cs, y, h, hy => by
    simp only [kinds] at h
    split at h
    · rename_i k ht
      cases h
      obtain ⟨x, rfl, _, hw⟩ := DataW.trod_int ht hy
      exact ⟨⟨x, rfl, hw⟩, trivial⟩
    · rename_i ht
      cases h
      obtain ⟨b, rfl, _⟩ := DataW.trod_bool ht hy
      exact ⟨⟨b, rfl⟩, trivial⟩
    · rename_i ht
      cases h
      obtain ⟨s, rfl, _, hs⟩ := DataW.trod_string ht hy
      exact ⟨⟨s, rfl, hs⟩, trivial⟩
    · rename_i fs ht
      split at h
      · rename_i k1 hk1
        by_cases hb : Nat.beq (P.cellsOf t) k1.length = true
        · rw [hb, cond_true] at h
          cases h
          obtain ⟨xs, n', rfl, _, hl, hlen, hf⟩ := DataW.trod_struct ht hy
          have := kindsF_ok (cs := cs) (fun h1 h2 => kinds_ok m h1 h2) fs 0 _ hk1 (fun fd hfd => by
            obtain ⟨i, hi, rfl⟩ := List.getElem_of_mem hfd
            have h3 := hf i fs[i] (by simp [hi])
            have hi' : i < xs.length := by rw [hlen]; simpa using hi
            rw [List.getElem?_eq_getElem hi'] at h3
            exact ⟨_, h3⟩)
          rw [List.drop_zero, ← Nat.eq_of_beq_eq_true hb, ← hl, List.take_length] at this
          exact this
        · simp only [Bool.not_eq_true] at hb
          rw [hb, cond_false] at h
          cases h
      · cases h
    · cases h

theorem map_of {α β : Type} {f : β → α} {p : β → Prop} : ∀ {L : List α}, (∀ r ∈ L, ∃ s, r = f s ∧ p s) → ∃ l : List β, L = l.map f ∧ ∀ s ∈ l, p s
  | [], _ => ⟨[], rfl, fun _ h => by cases h⟩
  | r :: L, h => by
    obtain ⟨s, rfl, hs⟩ := h r (.head _)
    obtain ⟨l, rfl, hl⟩ := map_of (L := L) fun x hx => h x (.tail _ hx)
    exact ⟨s :: l, rfl, fun x hx => by rcases List.mem_cons.1 hx with rfl | hx; exact hs; exact hl x hx⟩

/-- A slice of flat elements that came in. -/
theorem arg_rows {α : Type} {r : Reach} {b0 : Nat} {t e : TypeId} {ks : List CK} {c : α → List Value} {p : α → Prop} (s : Nat) {v : Value} {d : DataW H} {q : List MemPlace} (ht : P.underlying t = some (.slice e)) (hk : kinds P 9 e = some ks) (hc : P.cellsOf e = s) (hs : Nat.blt 0 s = true)
    (hp : ∀ cs, Cks ks cs → ∃ x, cs = c x ∧ p x) (hv : Value.okWide P W r b0 t v) (h : DataW.Trod enc P W 0 (fun _ => true) true t v d q) :
    ∃ (a : Option Addr) (cp : Nat) (l : List α), v = .slice a l.length cp ∧ l.length ≤ cp ∧ l.length ≤ maxLen ∧ (∀ x ∈ l, p x) ∧ Els W c a l := by
  subst hc
  have hs : 0 < P.cellsOf e := Nat.lt_of_lt_of_le Nat.zero_lt_one (Nat.le_of_ble_eq_true hs)
  obtain ⟨a, len, cap, rfl⟩ := okWide_slice ht hv
  obtain ⟨fuel, hf⟩ := h
  rcases Deep.open_slice ht hf with ⟨hcs, _⟩ | ⟨x, l, c', m, n, D, Pl, hcs, _, hl, hm, hmm, _, hel⟩
  · simp [Value.cells] at hcs
    obtain ⟨rfl, rfl, rfl⟩ := hcs
    exact ⟨none, 0, [], rfl, Nat.le_refl _, Nat.zero_le _, fun _ h => (by cases h), Els.nil _ _ _⟩
  · simp [Value.cells] at hcs
    obtain ⟨rfl, rfl, rfl⟩ := hcs
    have hlm : len ≤ m := by rw [hmm]; split <;> omega
    have key : ∀ i, i < len → ∃ y : α, (∀ j, j < P.cellsOf e → W.cell? ((x.add (i * P.cellsOf e)).add j) = (c y)[j]?) ∧ (c y).length = P.cellsOf e ∧ p y := fun i hi => by
      obtain ⟨cs, h1, h2⟩ := hel i (by omega)
      obtain ⟨_, h3, h4⟩ := World.cells?_some h1
      obtain ⟨y, rfl, hy⟩ := hp cs (kinds_ok 9 hk h2)
      exact ⟨y, h4, h3, hy⟩
    have hne : ∀ i, i < len → ∃ y : Option α, ∃ z, y = some z ∧ (∀ j, j < P.cellsOf e → W.cell? ((x.add (i * P.cellsOf e)).add j) = (c z)[j]?) ∧ (c z).length = P.cellsOf e ∧ p z := fun i hi => by
      obtain ⟨y, h1⟩ := key i hi; exact ⟨some y, y, rfl, h1⟩
    obtain ⟨f, hfy⟩ := Deep.choose_lt hne
    have hex : ∀ o ∈ (List.range len).map f, ∃ z, o = some z ∧ p z := fun o ho => by
      obtain ⟨i, hi, rfl⟩ := List.mem_map.1 ho
      obtain ⟨z, h1, _, _, h4⟩ := hfy i (List.mem_range.1 hi)
      exact ⟨z, h1, h4⟩
    obtain ⟨L, hL, hLp⟩ := map_of hex
    have hlen : L.length = len := by
      have := congrArg List.length hL
      simpa using this.symm
    refine ⟨some x, cap, L, by rw [hlen], by omega, by omega, hLp, fun h0 => ?_⟩
    obtain ⟨b, off, spot⟩ := x
    have hg : ∀ i, (hi : i < L.length) → f i = some L[i] := fun i hi => by
      have h5 : ((List.range len).map f)[i]? = (L.map some)[i]? := by rw [hL]
      rw [List.getElem?_map, List.getElem?_map, List.getElem?_range (by omega), List.getElem?_eq_getElem hi] at h5
      simpa using h5
    have hcell : ∀ i j, (hi : i < L.length) → j < P.cellsOf e → W.cell? (((⟨b, off, spot⟩ : Addr).add (i * P.cellsOf e)).add j) = (c L[i])[j]? ∧ (c L[i]).length = P.cellsOf e := fun i j hi hj => by
      obtain ⟨z, h1, h2, h3, _⟩ := hfy i (by omega)
      have h6 := hg i hi
      rw [h1] at h6
      cases h6
      exact ⟨h2 j hj, h3⟩
    have hspot : spot = none := by
      obtain ⟨h7, h8⟩ := hcell 0 0 h0 hs
      rw [List.getElem?_eq_getElem (by omega)] at h7
      simpa [Addr.add] using World.cell?_spot h7
    subst hspot
    refine ⟨b, off, rfl, fun k v hv => ?_⟩
    have hcl : ∀ z ∈ L, (c z).length = P.cellsOf e := fun z hz => by
      obtain ⟨i, hi, rfl⟩ := List.getElem_of_mem hz
      exact (hcell i 0 hi hs).2
    -- the k-th cell lies in the (k / s)-th element
    have main : ∀ (L : List α) (o : Nat), (∀ i j, (hi : i < L.length) → j < P.cellsOf e → W.cell? ⟨b, o + (i * P.cellsOf e + j), none⟩ = (c L[i])[j]?) → (∀ z ∈ L, (c z).length = P.cellsOf e) → ∀ k v, (flat c L)[k]? = some v → W.cell? ⟨b, o + k, none⟩ = some v := by
      intro L
      induction L with
      | nil => intro o _ _ k v hv; simp [flat] at hv
      | cons z L ih =>
        intro o hc1 hc2 k v hv
        have hz := hc2 z (.head _)
        rw [flat_cons] at hv
        rcases Nat.lt_or_ge k (P.cellsOf e) with hk1 | hk1
        · rw [List.getElem?_append_left (by omega)] at hv
          have := hc1 0 k (by simp) hk1
          rw [Nat.zero_mul, Nat.zero_add] at this
          rw [this]; exact hv
        · rw [List.getElem?_append_right (by omega), hz] at hv
          have h9 := ih (o + P.cellsOf e) (fun i j hi hj => by
            have := hc1 (i + 1) j (by simpa using hi) hj
            rw [Nat.add_mul, Nat.one_mul] at this
            rw [show o + P.cellsOf e + (i * P.cellsOf e + j) = o + (i * P.cellsOf e + P.cellsOf e + j) by omega]
            exact this) (fun y hy => hc2 y (.tail _ hy)) (k - P.cellsOf e) v hv
          rw [show o + P.cellsOf e + (k - P.cellsOf e) = o + k by omega] at h9
          exact h9
    refine main L off (fun i j hi hj => ?_) hcl k v hv
    have := (hcell i j hi hj).1
    rw [add_mk, add_mk] at this
    rw [show off + (i * P.cellsOf e + j) = off + i * P.cellsOf e + j by omega]
    exact this

/-- A struct that came in by value. -/
theorem arg_flat {α : Type} {r : Reach} {b0 : Nat} {t : TypeId} {fs : Array Field} {ks : List CK} {c : α → List Value} {p : α → Prop} {v : Value} {d : DataW H} {q : List MemPlace} (ht : P.underlying t = some (.struct fs)) (hk : kinds P 9 t = some ks)
    (hp : ∀ cs, Cks ks cs → ∃ x, cs = c x ∧ p x) (hv : Value.okWide P W r b0 t v) (h : DataW.Trod enc P W base spare held t v d q) :
    ∃ x : α, v = .agg (c x).toArray ∧ p x := by
  obtain ⟨⟨cs⟩, rfl, _⟩ := okWide_struct ht hv
  obtain ⟨fuel, hf⟩ := h
  have h1 := kinds_ok 9 hk hf
  simp only [Value.cells] at h1
  obtain ⟨x, hx, hpx⟩ := hp _ h1
  exact ⟨x, by rw [← hx], hpx⟩
/-- A truth value that came in. -/
theorem arg_bool {r : Reach} {b0 : Nat} {t : TypeId} {v : Value} {d : DataW H} {q : List MemPlace} (ht : P.underlying t = some .bool) (hv : Value.okWide P W r b0 t v) (h : DataW.Trod enc P W base spare held t v d q) : ∃ b, v = .bool b := by
  obtain ⟨fuel, hf⟩ := h
  obtain ⟨b, hcs, _⟩ := DataW.trod_bool ht hf
  refine ⟨b, ?_⟩
  simp only [Value.okWide, ht, Cell.okWide] at hv
  cases v <;> simp_all [Cell.ok, Value.cells]
/-- A string that came in. -/
theorem arg_str {r : Reach} {b0 : Nat} {t : TypeId} {v : Value} {d : DataW H} {q : List MemPlace} (ht : P.underlying t = some .string) (hv : Value.okWide P W r b0 t v) (h : DataW.Trod enc P W base spare held t v d q) : ∃ s : ByteArray, v = .string s ∧ s.size ≤ maxLen := by
  obtain ⟨s, rfl⟩ := okWide_string ht hv
  obtain ⟨fuel, hf⟩ := h
  obtain ⟨s', hcs, _, hm⟩ := DataW.trod_string ht hf
  simp [Value.cells] at hcs
  subst hcs
  exact ⟨s, rfl, hm⟩
end
end Go.VV
namespace Go.VV
open Go

def shpB : List CK → List Value → Bool
  | [], [] => true
  | .int k :: ks, .int k' _ :: vs => decide (k = k') && shpB ks vs
  | .bool :: ks, .bool _ :: vs => shpB ks vs
  | .str :: ks, .string _ :: vs => shpB ks vs
  | _, _ => false
def veq : Value → Value → Bool
  | .int _ a, .int _ b => a == b
  | .bool a, .bool b => a == b
  | .string a, .string b => a.toList == b.toList
  | _, _ => false
def lveq : List Value → List Value → Bool
  | [], [] => true
  | x :: xs, y :: ys => veq x y && lveq xs ys
  | _, _ => false
theorem shpB_split : ∀ {a b : List CK} {xs : List Value}, shpB (a ++ b) xs = true → ∃ x y, xs = x ++ y ∧ shpB a x = true ∧ shpB b y = true
  | [], b, xs, h => ⟨[], xs, rfl, rfl, h⟩
  | .int k :: a, b, .int k' n :: vs, h => by
    simp only [List.cons_append, shpB, Bool.and_eq_true] at h
    obtain ⟨x, y, rfl, h1, h2⟩ := shpB_split (a := a) (b := b) (xs := vs) h.2
    exact ⟨.int k' n :: x, y, rfl, by simp only [shpB, Bool.and_eq_true]; exact ⟨h.1, h1⟩, h2⟩
  | .bool :: a, b, .bool t :: vs, h => by
    obtain ⟨x, y, rfl, h1, h2⟩ := shpB_split (a := a) (b := b) (xs := vs) h
    exact ⟨.bool t :: x, y, rfl, h1, h2⟩
  | .str :: a, b, .string t :: vs, h => by
    obtain ⟨x, y, rfl, h1, h2⟩ := shpB_split (a := a) (b := b) (xs := vs) h
    exact ⟨.string t :: x, y, rfl, h1, h2⟩
theorem shpB_len : ∀ {a : List CK} {x : List Value}, shpB a x = true → x.length = a.length
  | [], [], _ => rfl
  | .int _ :: a, .int _ _ :: x, h => by
    simp only [shpB, Bool.and_eq_true] at h
    simp [shpB_len (a := a) (x := x) h.2]
  | .bool :: a, .bool _ :: x, h => by simp [shpB_len (a := a) (x := x) h]
  | .str :: a, .string _ :: x, h => by simp [shpB_len (a := a) (x := x) h]
theorem shp_int {k : IntKind} {x : List Value} (h : shpB [.int k] x = true) : ∃ n, x = [.int k n] := by
  cases x with
  | nil => simp [shpB] at h
  | cons v r =>
    cases v <;> simp [shpB] at h
    obtain ⟨rfl, h2⟩ := h
    cases r with
    | nil => exact ⟨_, rfl⟩
    | cons => simp [shpB] at h2
theorem lveq_app : ∀ {a b x y : List Value}, a.length = x.length → lveq (a ++ b) (x ++ y) = (lveq a x && lveq b y)
  | [], b, [], y, _ => by simp [lveq]
  | u :: a, b, v :: x, y, h => by
    simp only [List.cons_append, lveq]
    rw [lveq_app (by simpa using h), Bool.and_assoc]

section
variable (P : Program)
def eqOkF (f : TypeId → Bool) : List Field → Bool
  | [] => true
  | fd :: r => !(fd.name == "_") && f fd.type && eqOkF f r
def eqOk : Nat → TypeId → Bool
  | 0, _ => false
  | n + 1, t => match P.underlying t with
    | some (.int _) => true
    | some .bool => true
    | some .string => true
    | some (.struct ⟨fs⟩) => !(P.stoodInHeld t) && Nat.beq ((sizeP P t).getD 0) (P.cellsOf t) && (sizeP P t).isSome && eqOkF (eqOk n) fs
    | _ => false
/-- A value of its cells. -/
def valP (t : TypeId) (xs : List Value) : Value := match P.underlying t with
  | some (.struct _) => .agg xs.toArray
  | _ => xs.headD undef
end

section
variable {P : Program}
theorem run_part {w : World} {t : TypeId} {m : Nat} {ks : List CK} {X x R : List Value} {off : Nat} (hk : kinds P m t = some ks) (he : eqOk P m t = true) (hx : shpB ks x = true) (hX : X.drop off = x ++ R) (hc : P.cellsOf t = ks.length) :
    (part t X.toArray off).run P w = .ok (valP P t x) w := by
  have hlen := shpB_len hx
  cases m with
  | zero => cases hk
  | succ m =>
    simp only [kinds] at hk
    simp only [eqOk] at he
    split at hk
    · rename_i k ht
      cases hk
      obtain ⟨n, rfl⟩ := shp_int hx
      · have h0 : X[off]? = some (.int k n) := by
          have := congrArg (·[0]?) hX
          simpa using this
        simp [part, isAgg, run_underlying ht, h0, valP, ht]
    · rename_i ht
      cases hk
      match x, hx with
      | [.bool n], _ =>
        have h0 : X[off]? = some (.bool n) := by
          have := congrArg (·[0]?) hX
          simpa using this
        simp [part, isAgg, run_underlying ht, h0, valP, ht]
    · rename_i ht
      cases hk
      match x, hx with
      | [.string n], _ =>
        have h0 : X[off]? = some (.string n) := by
          have := congrArg (·[0]?) hX
          simpa using this
        simp [part, isAgg, run_underlying ht, h0, valP, ht]
    · rename_i fs ht
      rw [ht] at he
      simp only [Bool.and_eq_true] at he
      obtain ⟨⟨⟨_, h1⟩, h2⟩, _⟩ := he
      obtain ⟨n, hn⟩ := Option.isSome_iff_exists.1 h2
      rw [hn] at h1
      have h3 := Nat.eq_of_beq_eq_true h1
      simp only [Option.getD_some] at h3
      have hsz := run_sizeOf hn w
      have h5 : (X.drop off).take n = x := by
        rw [hX, h3, hc, ← hlen, List.take_left']
        rfl
      simp [part, isAgg, run_underlying ht, hsz, valP, ht]
      exact h5
    · cases hk

theorem run_eq_flat : ∀ (m : Nat) {d : Nat} {w : World} {t : TypeId} {ks : List CK} {x y : List Value}, m ≤ d → kinds P m t = some ks → eqOk P m t = true → shpB ks x = true → shpB ks y = true →
    (Op.equalIn d t (valP P t x) (valP P t y)).run P w = .ok (lveq x y) w
  | 0, _, _, _, _, _, _, _, h, _, _, _ => by cases h
  | m + 1, 0, _, _, _, _, _, hd, _, _, _, _ => by omega
  | m + 1, d + 1, w, t, ks, x, y, hd, hk, he, hx, hy => by
    simp only [kinds] at hk
    simp only [eqOk] at he
    split at hk
    · rename_i k ht
      cases hk
      obtain ⟨n, rfl⟩ := shp_int hx
      obtain ⟨n2, rfl⟩ := shp_int hy
      simp [valP, ht, run_equalIn_int w d t k k n n2 ht, lveq, veq]
    · rename_i ht
      cases hk
      match x, y, hx, hy with
      | [.bool n], [.bool n2], _, _ => simp [valP, ht, run_equalIn_bool' w d t n n2 ht, lveq, veq]
    · rename_i ht
      cases hk
      match x, y, hx, hy with
      | [.string n], [.string n2], _, _ => simp [valP, ht, run_equalIn_string w d t n n2 ht, lveq, veq]
    · rename_i fs ht
      rw [ht] at he
      simp only [Bool.and_eq_true, Bool.not_eq_true'] at he
      obtain ⟨⟨⟨hst, _⟩, _⟩, hof⟩ := he
      split at hk
      · rename_i k1 hk1
        by_cases hb : Nat.beq (P.cellsOf t) k1.length = true
        · rw [hb, cond_true] at hk
          cases hk
          have hfo : P.fieldsOf t = ⟨fs⟩ := by simp [Program.fieldsOf, ht]
          have hv : ∀ z, valP P t z = .agg z.toArray := fun z => by simp [valP, ht]
          rw [hv, hv, run_equalIn_struct w d t _ _ (by rw [hfo]; exact ht) hst, hfo]
          have key : ∀ (fs : List Field) (off : Nat) (ks : List CK) (x1 y1 : List Value), kindsF P (kinds P m) fs off = some ks → eqOkF (eqOk P m) fs = true → shpB ks x1 = true → shpB ks y1 = true → (∃ r, x.drop off = x1 ++ r) → (∃ r, y.drop off = y1 ++ r) →
              (Op.eqFields d x.toArray y.toArray fs).run P w = .ok (lveq x1 y1) w := by
            intro fs
            induction fs with
            | nil =>
              intro off ks x1 y1 h1 _ h3 h4 _ _
              cases h1
              match x1, y1, h3, h4 with
              | [], [], _, _ => simp [Op.eqFields, lveq]
            | cons f fs ih =>
              intro off ks x1 y1 h1 h2 h3 h4 h5 h6
              simp only [kindsF] at h1
              simp only [eqOkF, Bool.and_eq_true, Bool.not_eq_true'] at h2
              split at h1
              · rename_i k2 hk2
                by_cases hb2 : (Nat.beq f.offset off && Nat.beq (P.cellsOf f.type) k2.length) = true
                · rw [hb2, cond_true] at h1
                  simp only [Bool.and_eq_true] at hb2
                  have e1 := Nat.eq_of_beq_eq_true hb2.1
                  have e2 := Nat.eq_of_beq_eq_true hb2.2
                  split at h1
                  · rename_i rs hrs
                    cases h1
                    obtain ⟨xa, xb, rfl, ha1, ha2⟩ := shpB_split h3
                    obtain ⟨ya, yb, rfl, hb1, hb2⟩ := shpB_split h4
                    obtain ⟨r1, hr1⟩ := h5
                    obtain ⟨r2, hr2⟩ := h6
                    have p1 := run_part (w := w) hk2 h2.1.2 ha1 (by rw [hr1, List.append_assoc]) e2
                    have p2 := run_part (w := w) hk2 h2.1.2 hb1 (by rw [hr2, List.append_assoc]) e2
                    have p3 := run_eq_flat m (d := d) (w := w) (by omega) hk2 h2.1.2 ha1 hb1
                    have hnm : f.name ≠ "_" := by
                      have := h2.1.1
                      intro h0; rw [h0] at this; simp at this
                    have l1 := shpB_len ha1
                    have l2 := shpB_len hb1
                    have p4 := ih (off + k2.length) rs xb yb hrs h2.2 ha2 hb2 ⟨r1, by rw [← List.drop_drop, hr1, List.append_assoc, List.drop_left' l1]⟩ ⟨r2, by rw [← List.drop_drop, hr2, List.append_assoc, List.drop_left' l2]⟩
                    rw [lveq_app (l1.trans l2.symm)]
                    simp only [Op.eqFields, if_pos hnm, Sem.run_bind, e1, p1, p2, p3, Result.andThen_ok]
                    cases lveq xa ya
                    · simp
                    · simpa using p4
                  · cases h1
                · simp only [Bool.not_eq_true] at hb2
                  rw [hb2, cond_false] at h1
                  cases h1
              · cases h1
          exact key fs 0 _ x y hk1 hof hx hy ⟨[], by simp⟩ ⟨[], by simp⟩
        · simp only [Bool.not_eq_true] at hb
          rw [hb, cond_false] at hk
          cases hk
      · cases hk
    · cases hk

section
variable {e : Env} {d : Option Nat} {t u ty : TypeId} {pos : String} {af : Array Edge} {g : Option (Nat × Bool)} {x y : Operand} {l r : List Value} {ks : List CK}
def eqsB (P : Program) (t : TypeId) : Bool := eqOk P 9 t && !(P.eqGuardType P.depth t) && (match P.underlying t with
  | some (.struct _) => true
  | _ => false)
theorem run_eqs (hx : vnf (ev e x) = some (.agg ⟨l⟩)) (hy : vnf (ev e y) = some (.agg ⟨r⟩)) (hk : kinds P 9 t = some ks) (hb : eqsB P t = true) (h1 : shpB ks l = true) (h2 : shpB ks r = true) (w : World) :
    (execOp (ev e) ⟨d, .binOp .eql t x y u, ty, pos, af, g⟩).run P w = .ok (.value (.bool (lveq l r))) w := by
  have hx := vnf_eq hx
  have hy := vnf_eq hy
  simp only [eqsB, Bool.and_eq_true, Bool.not_eq_true'] at hb
  obtain ⟨⟨b1, b2⟩, b3⟩ := hb
  have hv : ∀ z : List Value, valP P t z = .agg ⟨z⟩ := fun z => by
    unfold valP
    split at b3
    · rename_i ht; first | rfl | rw [ht]
    · cases b3
  have key := run_eq_flat 9 (d := 10000) (w := w) (by omega) hk b1 h1 h2
  rw [hv, hv] at key
  have hgd : (eqGuard .eql t x y (.agg ⟨l⟩) (.agg ⟨r⟩)).run P w = .ok () w := by simp [eqGuard, b2]
  simp only [execOp, hx, hy, Sem.run_bind]
  rw [hgd]
  simp only [Result.andThen_ok]
  rw [run_eql_struct (P := P) w t, key]
  rfl
theorem run_nes (hx : vnf (ev e x) = some (.agg ⟨l⟩)) (hy : vnf (ev e y) = some (.agg ⟨r⟩)) (hk : kinds P 9 t = some ks) (hb : eqsB P t = true) (h1 : shpB ks l = true) (h2 : shpB ks r = true) (w : World) :
    (execOp (ev e) ⟨d, .binOp .neq t x y u, ty, pos, af, g⟩).run P w = .ok (.value (.bool (!(lveq l r)))) w := by
  have hx := vnf_eq hx
  have hy := vnf_eq hy
  simp only [eqsB, Bool.and_eq_true, Bool.not_eq_true'] at hb
  obtain ⟨⟨b1, b2⟩, b3⟩ := hb
  have hv : ∀ z : List Value, valP P t z = .agg ⟨z⟩ := fun z => by
    unfold valP
    split at b3
    · rename_i ht; first | rfl | rw [ht]
    · cases b3
  have key := run_eq_flat 9 (d := 10000) (w := w) (by omega) hk b1 h1 h2
  rw [hv, hv] at key
  have hgd : (eqGuard .neq t x y (.agg ⟨l⟩) (.agg ⟨r⟩)).run P w = .ok () w := by simp [eqGuard, b2]
  simp only [execOp, hx, hy, Sem.run_bind]
  rw [hgd]
  simp only [Result.andThen_ok]
  rw [run_neq_struct (P := P) w t, key]
  rfl
variable {Γ : Ctx} {H : Heap} {k : Kont} {ops rest : List Oper} {S : World → Prop} {need : List Nat} {pl : Plan} {i : Nat}
theorem l_eqs (hx : vnf (ev e x) = some (.agg ⟨l⟩)) (hy : vnf (ev e y) = some (.agg ⟨r⟩)) (hk : kinds Γ.P 9 t = some ks) (hb : eqsB Γ.P t = true) (h1 : shpB ks l = true) (h2 : shpB ks r = true)
    (hg : gdB ops e ⟨d, .binOp .eql t x y u, ty, pos, af, g⟩ = true) (hd : dstOk Γ.n d = true) {b : Bool} (hv : lveq l r = b) (h : L1 Γ ops rest k (e.put d (.bool b)) H) : L1 Γ ops (⟨d, .binOp .eql t x y u, ty, pos, af, g⟩ :: rest) k e H := by
  subst hv
  exact l_op (K := fun u H' => u = .bool (lveq l r) ∧ H' = H) hg hd (fun w hw => opW_run (run_eqs hx hy hk hb h1 h2 w) ⟨H, hw, rfl, rfl⟩) (by rintro _ _ ⟨rfl, rfl⟩; exact h)
theorem l_nes (hx : vnf (ev e x) = some (.agg ⟨l⟩)) (hy : vnf (ev e y) = some (.agg ⟨r⟩)) (hk : kinds Γ.P 9 t = some ks) (hb : eqsB Γ.P t = true) (h1 : shpB ks l = true) (h2 : shpB ks r = true)
    (hg : gdB ops e ⟨d, .binOp .neq t x y u, ty, pos, af, g⟩ = true) (hd : dstOk Γ.n d = true) {b : Bool} (hv : (!(lveq l r)) = b) (h : L1 Γ ops rest k (e.put d (.bool b)) H) : L1 Γ ops (⟨d, .binOp .neq t x y u, ty, pos, af, g⟩ :: rest) k e H := by
  subst hv
  exact l_op (K := fun u H' => u = .bool (!(lveq l r)) ∧ H' = H) hg hd (fun w hw => opW_run (run_nes hx hy hk hb h1 h2 w) ⟨H, hw, rfl, rfl⟩) (by rintro _ _ ⟨rfl, rfl⟩; exact h)
theorem d_eqs (ho : ops[i]? = some ⟨d, .binOp .eql t x y u, ty, pos, af, g⟩) (hx : vnf (ev e x) = some (.agg ⟨l⟩)) (hy : vnf (ev e y) = some (.agg ⟨r⟩)) (hk : kinds Γ.P 9 t = some ks) (hb : eqsB Γ.P t = true) (h1 : shpB ks l = true) (h2 : shpB ks r = true)
    (hg : gdB ops e ⟨d, .binOp .eql t x y u, ty, pos, af, g⟩ = true) (hd : dstOk Γ.n d = true) {b : Bool} (hv : lveq l r = b) (h : L2 Γ ops S need pl k (e.put d (.bool b)) H) : L2 Γ ops S need (.step true i pl) k e H := by
  subst hv
  exact d_yield ho hg hd (fun w _ => run_eqs hx hy hk hb h1 h2 w) h
theorem d_nes (ho : ops[i]? = some ⟨d, .binOp .neq t x y u, ty, pos, af, g⟩) (hx : vnf (ev e x) = some (.agg ⟨l⟩)) (hy : vnf (ev e y) = some (.agg ⟨r⟩)) (hk : kinds Γ.P 9 t = some ks) (hb : eqsB Γ.P t = true) (h1 : shpB ks l = true) (h2 : shpB ks r = true)
    (hg : gdB ops e ⟨d, .binOp .neq t x y u, ty, pos, af, g⟩ = true) (hd : dstOk Γ.n d = true) {b : Bool} (hv : (!(lveq l r)) = b) (h : L2 Γ ops S need pl k (e.put d (.bool b)) H) : L2 Γ ops S need (.step true i pl) k e H := by
  subst hv
  exact d_yield ho hg hd (fun w _ => run_nes hx hy hk hb h1 h2 w) h
end
end
theorem lveq_refl : ∀ {ks : List CK} {l : List Value}, shpB ks l = true → lveq l l = true
  | [], [], _ => rfl
  | .int _ :: ks, .int _ _ :: vs, h => by
    simp only [shpB, Bool.and_eq_true] at h
    simp [lveq, veq, lveq_refl (ks := ks) (l := vs) h.2]
  | .bool :: ks, .bool _ :: vs, h => by simp [lveq, veq, lveq_refl (ks := ks) (l := vs) h]
  | .str :: ks, .string _ :: vs, h => by simp [lveq, veq, lveq_refl (ks := ks) (l := vs) h]
end Go.VV
namespace Go.VV
open Go Go.RowKit
section
variable {P : Program} {Γ : Ctx} {e : Env} {H : Heap} {d : Option Nat} {ty : TypeId} {pos : String} {af : Array Edge} {g : Option (Nat × Bool)}
theorem Row.seg {w : World} {b off : Nat} {L l : List Value} (h : Row w b off L) (k n : Nat) (hs : spine ((L.drop k).take n) = some l) : Row w b (off + k) l := fun j v hv => by
  rw [← spine_eq hs, List.getElem?_take] at hv
  split at hv
  · rw [List.getElem?_drop] at hv
    rw [Nat.add_assoc]; exact h _ _ hv
  · cases hv
/-- A part of a block of one's own. -/
theorem row_own_at {w0 : World} {ms : List Nat} {b : Nat} {l l' : List Value} {t : TypeId} {fr : Nat × Nat} (hm : (b, Obj.cells l.toArray t fr) ∈ H) (k n : Nat) (hs : spine ((l.drop k).take n) = some l') : ∀ w, St w0 ms H w → Row w b k l' := fun w hw => by
  have := (row_own (H := H) hm w hw).seg k n hs
  rwa [Nat.zero_add] at this
/-- append(s, x..), the slice's memory the last part of the heap. -/
theorem x_appendE {t : TypeId} {x y : Operand} {T s by_ : Nat} {v u : Value} {n m : Nat} {xs ys : List Value} {G A : Heap} {ts : Array TypeId}
    (hx : ev e x = v) (hy : ev e y = u) (hts : ts = #[t, t]) (hp : appP Γ.P t = some (T, s, by_)) (hv : Vec T s v n xs G)
    (hs : ∀ w, St Γ.w0 Γ.ms (A ++ G) w → Src w s u m ys) (h1 : ones ys = true) (hlen : n + m ≤ 140737488355328) (hb : (n + m) * by_ ≤ 140737488355328) :
    Op1 Γ ⟨d, .call ⟨.builtin .append, #[x, y], ts⟩, ty, pos, af, g⟩ e (A ++ G) (fun v' H' => ∃ G', Vec T s v' (n + m) (xs ++ ys) G' ∧ (v' = .slice none 0 0 → n = 0 ∧ m = 0) ∧ H' = G' ++ A) := by
  have key := x_append (Γ := Γ) (e := e) (d := d) (ty := ty) (pos := pos) (af := af) (g := g) (A := A) (R := []) hx hy hts hp hv (fun w hw => hs w (by simpa using hw)) h1 hlen hb
  intro w hw
  refine opW_mono (key w (by simpa using hw)) ?_
  rintro v' w' ⟨H', h2, G', h3, h4, rfl⟩
  exact ⟨G' ++ A, by simpa using h2, G', h3, h4, rfl⟩
theorem Vec.as {T s n n' : Nat} {v : Value} {xs xs' : List Value} {G : Heap} (h : Vec T s v n xs G) (hn : n = n') (hx : xs = xs') : Vec T s v n' xs' G := by subst hn hx; exact h
theorem Vec.full {T s : Nat} {v : Value} {n : Nat} {xs : List Value} {G : Heap} (h : Vec T s v n xs G) (hn : n ≠ 0) :
    ∃ b cap sp, v = .slice (some ⟨b, 0, none⟩) n cap ∧ G = [(b, blk (xs ++ sp) T)] ∧ (xs ++ sp).length = cap * s ∧ n ≤ cap ∧ cap ≤ maxLen := by
  cases h with
  | nil => exact absurd rfl hn
  | row b _ cap _ sp h1 h2 h3 h4 => exact ⟨b, cap, sp, rfl, rfl, h2, h4, h3⟩
theorem Vec.alt {T s : Nat} {v : Value} {n : Nat} {xs : List Value} {G : Heap} (h : Vec T s v n xs G) :
    (v = .slice none 0 0 ∧ n = 0 ∧ xs = [] ∧ G = []) ∨ ∃ b cap sp, v = .slice (some ⟨b, 0, none⟩) n cap ∧ G = [(b, blk (xs ++ sp) T)] ∧ (xs ++ sp).length = cap * s ∧ n ≤ cap ∧ cap ≤ maxLen := by
  cases h with
  | nil => exact .inl ⟨rfl, rfl, rfl, rfl⟩
  | row b _ cap _ sp h1 h2 h3 h4 => exact .inr ⟨b, cap, sp, rfl, rfl, h2, h4, h3⟩
/-- A slice of elements, whole. -/
theorem Vec.all_ {α : Type} {c : α → List Value} {T s b cap : Nat} {l : List α} {sp : List Value} (hc : ∀ x, (c x).length = s) (h2 : (flat c l ++ sp).length = cap * s) (h4 : l.length ≤ cap) (h3 : cap ≤ maxLen) :
    Vec T s (.slice (some ⟨b, 0, none⟩) l.length cap) l.length (flat c l) [(b, blk (flat c l ++ sp) T)] :=
  .row b _ cap _ sp (flat_len hc l) h2 h3 h4
theorem ones_flat_of {α : Type} {c : α → List Value} (h : ∀ x, ones (c x) = true) (l : List α) : ones (flat c l) = true := by
  refine List.all_eq_true.2 fun x hx => ?_
  unfold flat at hx
  obtain ⟨y, _, hy⟩ := List.mem_flatMap.1 hx
  exact List.all_eq_true.1 (h y) x hy
theorem St.lentV {w0 w : World} {ms : List Nat} {F G : Heap} (h : St w0 ms (F ++ G) w) : St w (F.map (·.1)) F w := by
  have hn := h.nodup
  rw [List.map_append, List.nodup_append] at hn
  exact ⟨rfl, rfl, rfl, Nat.le_refl _, fun _ _ _ => rfl, hn.1, fun x hx => .inl (List.mem_map.2 ⟨x, hx, rfl⟩), fun x hx => h.holds x (List.mem_append_left _ hx)⟩
theorem St.lentA {w0 w : World} {ms : List Nat} {F : Heap} (h : St w0 ms F w) : St w (F.map (·.1)) F w := by
  have : St w0 ms (F ++ []) w := by simpa using h
  exact this.lentV

/-! ### elements that go, out of the front -/
section
variable {α : Type} {c : α → List Value} {s : Nat} (hc : ∀ x, (c x).length = s)
include hc
theorem flat_drop (l : List α) (j : Nat) : (flat c l).drop (j * s) = flat c (l.drop j) := by
  rcases Nat.lt_or_ge j l.length with hj | hj
  · have h1 : flat c l = flat c (l.take j) ++ flat c (l.drop j) := by rw [← flat_append, List.take_append_drop]
    have h2 : (flat c (l.take j)).length = j * s := by rw [flat_len hc, List.length_take, Nat.min_eq_left (by omega)]
    rw [h1, ← h2, List.drop_left]
  · rw [List.drop_of_length_le hj, List.drop_of_length_le (by rw [flat_len hc]; exact Nat.mul_le_mul_right _ hj)]
    rfl
theorem row_dropE {w : World} {b off j cp : Nat} {l : List α} {sp : List Value} (hr : Row w b off (flat c l ++ sp)) (hj : j ≤ l.length) (hcp : l.length ≤ cp) : Row w b (cutAt off j s cp) (flat c (l.drop j)) := by
  have h1 := (hr.left).cut (l := j) (k := l.length - j) (s := s) (c := cp) (by omega)
  rw [flat_drop hc] at h1
  have h2 : (flat c (l.drop j)).length = (l.length - j) * s := by rw [flat_len hc, List.length_drop]
  rw [← h2, List.take_length] at h1
  exact h1
/-- Out of the front 'j' of them. -/
theorem del0_law (l : List α) (sp zs : List Value) {j : Nat} (_hj : j ≤ l.length) : ∃ sp', putL (putL (flat c l ++ sp) (0 * s) (flat c (l.drop j))) ((l.length - j) * s) zs = flat c (l.drop j) ++ sp' := by
  have h2 : (flat c (l.drop j)).length = (l.length - j) * s := by rw [flat_len hc, List.length_drop]
  rw [Nat.zero_mul]
  unfold putL
  rw [List.take_zero, List.nil_append, Nat.zero_add]
  refine ⟨zs ++ ((flat c l ++ sp).drop (flat c (l.drop j)).length).drop zs.length, ?_⟩
  rw [← h2, List.take_left, ← List.drop_drop, List.drop_left, List.append_assoc]
theorem del0_fits (l : List α) (sp : List Value) (j : Nat) : 0 * s + (flat c (l.drop j)).length ≤ (flat c l ++ sp).length := by
  rw [flat_len hc, List.length_append, flat_len hc, List.length_drop, Nat.zero_mul, Nat.zero_add]
  exact Nat.le_trans (Nat.mul_le_mul_right _ (by omega)) (Nat.le_add_right _ _)
end
theorem cutz (b off s n c : Nat) : Value.slice (some ⟨b, cutAt off 0 s c, none⟩) (n - 0) (c - 0) = .slice (some ⟨b, off, none⟩) n c := by
  simp only [cutAt, Nat.zero_mul, Nat.add_zero, ite_self, Nat.sub_zero]
end
end Go.VV
namespace Go.VV
open Go
theorem ck_i {k : IntKind} {ks : List CK} {cs : List Value} (h : Cks (.int k :: ks) cs) : ∃ n vs, cs = .int k n :: vs ∧ (Lit.int k n).wf = true ∧ Cks ks vs := by
  cases cs with
  | nil => exact h.elim
  | cons v vs => obtain ⟨⟨n, rfl, hn⟩, h2⟩ := h; exact ⟨n, vs, rfl, hn, h2⟩
theorem ck_b {ks : List CK} {cs : List Value} (h : Cks (.bool :: ks) cs) : ∃ n vs, cs = .bool n :: vs ∧ Cks ks vs := by
  cases cs with
  | nil => exact h.elim
  | cons v vs => obtain ⟨⟨n, rfl⟩, h2⟩ := h; exact ⟨n, vs, rfl, h2⟩
theorem ck_s {ks : List CK} {cs : List Value} (h : Cks (.str :: ks) cs) : ∃ n vs, cs = .string n :: vs ∧ n.size ≤ maxLen ∧ Cks ks vs := by
  cases cs with
  | nil => exact h.elim
  | cons v vs => obtain ⟨⟨n, rfl, hn⟩, h2⟩ := h; exact ⟨n, vs, rfl, hn, h2⟩
theorem ck_0 {cs : List Value} (h : Cks [] cs) : cs = [] := by
  cases cs with
  | nil => rfl
  | cons v vs => exact h.elim
end Go.VV
namespace Go.VV
open Go
section
variable {Γ : Ctx} {e : Env} {A : Heap} {d : Option Nat} {t : TypeId} {pos : String} {af : Array Edge} {g : Option (Nat × Bool)}
/-- A call that may turn all that there is. -/
theorem x_callA {f : Nat} {l : List Operand} {ts : Array TypeId} {vs : List Value} (hc : callable Γ.P f = true) (hv : evs e l = some vs) {R : Value → Heap → Prop}
    (hf : ∀ w, St Γ.w0 Γ.ms A w → Does Γ.P f vs w (A.map (·.1)) R) :
    Op1 Γ ⟨d, .call ⟨.value (.func f), l.toArray, ts⟩, t, pos, af, g⟩ e A (fun v H2 => R v H2) := by
  intro w hw
  have key := x_callF (Γ := Γ) (e := e) (d := d) (t := t) (pos := pos) (af := af) (g := g) (ts := ts) (A := A) (G := []) (A.map (·.1)) hc hv (R := R) (fun _ hb => mem_fst hb) (fun w hw => hf w (by simpa using hw))
  refine opW_mono (key w (by simpa using hw)) ?_
  rintro v w' ⟨H', h2, G', h3, rfl⟩
  exact ⟨G', by simpa using h2, h3⟩
end
/-- A slice that can be read; a nil one has none. -/
def SlW {α : Type} (w : World) (c : α → List Value) (a : Option Addr) (l : List α) : Prop := (a = none ∧ l = []) ∨ ∃ b off, a = some ⟨b, off, none⟩ ∧ Row w b off (flat c l)
theorem SlW.els {α : Type} {w : World} {c : α → List Value} {a : Option Addr} {l : List α} (h : SlW w c a l) : Els w c a l := by
  rcases h with ⟨_, rfl⟩ | ⟨b, off, h1, h2⟩
  · exact Els.nil _ _ _
  · exact fun _ => ⟨b, off, h1, h2⟩
theorem SlW.later0 {α : Type} {w0 w : World} {H : Heap} {c : α → List Value} {a : Option Addr} {l : List α} (h : SlW w0 c a l) (hw : St w0 [] H w) : SlW w c a l := by
  rcases h with h | ⟨b, off, h1, h2⟩
  · exact .inl h
  · exact .inr ⟨b, off, h1, row_old h2 (by simp) w hw⟩
theorem Vec.slw {α : Type} {c : α → List Value} {T s n : Nat} {v : Value} {G : Heap} {l : List α} (h : Vec T s v n (flat c l) G) (hc : ∀ x, (c x).length = s) (hs : 0 < s) :
    ∃ a cp, v = .slice a n cp ∧ l.length = n ∧ n ≤ cp ∧ (cp = 0 → n = 0) ∧ (a = none → cp = 0) ∧ ∀ w : World, (∀ x ∈ G, w.heap[x.1]? = some x.2) → SlW w c a l := by
  have hl := h.len
  rw [flat_len hc] at hl
  have hn : l.length = n := Nat.eq_of_mul_eq_mul_right hs hl
  generalize hx : flat c l = xs at h
  cases h with
  | nil => exact ⟨none, 0, rfl, hn, Nat.le_refl _, fun _ => rfl, fun _ => rfl, fun _ _ => .inl ⟨rfl, List.eq_nil_of_length_eq_zero hn⟩⟩
  | row b _ cap _ sp h1 h2 h3 h4 =>
    refine ⟨_, cap, rfl, hn, h4, fun h => by omega, fun h => by (cases h), fun w hw => .inr ⟨b, 0, rfl, ?_⟩⟩
    have := Row.all (w := w) (b := b) (hw _ (.head _))
    rw [← hx] at this
    exact this.left
end Go.VV
namespace Go.VV
open Go
theorem srow_own_at {Γ : Ctx} {F : Heap} {b : Nat} {l l' : List Value} {T : TypeId} {fr : Nat × Nat} (hm : (b, Obj.cells l.toArray T fr) ∈ F) (k n : Nat) (hs : spine ((l.drop k).take n) = some l') : ∀ w, Stood Γ F w → Row w b k l' :=
  fun w ⟨_, hw, hF⟩ => row_own_at (hF _ hm) k n hs w hw
end Go.VV
namespace Go.VV
open Go

/-- Readable wherever the blocks 'G' are as they are. -/
def RowsIn (G : Heap) (b off : Nat) (xs : List Value) : Prop := ∀ w : World, (∀ x ∈ G, w.heap[x.1]? = some x.2) → Row w b off xs
theorem RowsIn.row {G H : Heap} {b off : Nat} {xs : List Value} (h : RowsIn G b off xs) (hs : ∀ x ∈ G, x ∈ H) {w0 : World} {ms : List Nat} : ∀ w, St w0 ms H w → Row w b off xs :=
  fun w hw => h w fun x hx => hw.holds x (hs x hx)
theorem RowsIn.srow {Γ : Ctx} {G F : Heap} {b off : Nat} {xs : List Value} (h : RowsIn G b off xs) (hs : ∀ x ∈ G, x ∈ F) : ∀ w, Stood Γ F w → Row w b off xs :=
  fun w ⟨_, hw, hF⟩ => h.row (fun x hx => hF x (hs x hx)) w hw
section
variable {α : Type} {c : α → List Value} {s : Nat}
theorem Row.at {w : World} {b off : Nat} {l : List α} {i : Nat} {x : α} (h : Row w b off (flat c l)) (hc : ∀ x, (c x).length = s) (hi : l[i]? = some x) (j : Nat) {v : Value} (hv : (c x)[j]? = some v) :
    w.cell? ⟨b, off + i * s + j, none⟩ = some v := Row.nth' hc h hi j v hv
/-- .. a part of one. -/
theorem Row.part {w : World} {b off : Nat} {l : List α} {i : Nat} {x : α} (h : Row w b off (flat c l)) (hc : ∀ x, (c x).length = s) (hi : l[i]? = some x) (j n : Nat) {v : List Value} (hv : spine (((c x).drop j).take n) = some v) :
    Row w b (off + i * s + j) v := (Row.nth' hc h hi).seg j n hv
theorem Vec.rows {T n : Nat} {v : Value} {G : Heap} {l : List α} (h : Vec T s v n (flat c l) G) (hc : ∀ x, (c x).length = s) (hs : 0 < s) :
    ∃ a cp, v = .slice a n cp ∧ l.length = n ∧ n ≤ cp ∧ (0 < l.length → ∃ b, a = some ⟨b, 0, none⟩ ∧ RowsIn G b 0 (flat c l)) := by
  have hl := h.len
  rw [flat_len hc] at hl
  have hn : l.length = n := Nat.eq_of_mul_eq_mul_right hs hl
  generalize hx : flat c l = xs at h
  cases h with
  | nil => exact ⟨none, 0, rfl, hn, Nat.le_refl _, fun h0 => by omega⟩
  | row b _ cap _ sp h1 h2 h3 h4 =>
    refine ⟨_, cap, rfl, hn, h4, fun _ => ⟨b, rfl, fun w hw => ?_⟩⟩
    exact (Row.all (w := w) (b := b) (hw _ (.head _))).left
theorem get_part {l : List α} {i : Nat} {x : α} (h : l[i]? = some x) : (l.take (i + 1)) = l.take i ++ [x] := by
  rw [List.take_add_one, h]; rfl
theorem get_some {l : List α} {i : Nat} (h : i < l.length) : l[i]? = some l[i] := List.getElem?_eq_getElem h
end
/-! ### a slice that is only read from here on: nil, or a part of a row -/
section
variable {α : Type} {c : α → List Value} {s : Nat}
def Seg (c : α → List Value) (l : List α) (v : Value) (G : Heap) : Prop :=
  (v = .slice none 0 0 ∧ l = [] ∧ G = []) ∨ ∃ b off cp, v = .slice (some ⟨b, off, none⟩) l.length cp ∧ l.length ≤ cp ∧ RowsIn G b off (flat c l)
theorem Seg.nil : Seg c [] (.slice none 0 0) [] := .inl ⟨rfl, rfl, rfl⟩
theorem Seg.of {l : List α} {b off n cp : Nat} {G : Heap} (hn : n = l.length) (h : l.length ≤ cp) (hr : RowsIn G b off (flat c l)) : Seg c l (.slice (some ⟨b, off, none⟩) n cp) G := by
  subst hn; exact .inr ⟨b, off, cp, rfl, h, hr⟩
theorem Seg.slice {l : List α} {v : Value} {G : Heap} (h : Seg c l v G) : ∃ a cp, v = .slice a l.length cp ∧ l.length ≤ cp ∧ (0 < l.length → ∃ b off, a = some ⟨b, off, none⟩ ∧ RowsIn G b off (flat c l)) := by
  rcases h with ⟨rfl, rfl, rfl⟩ | ⟨b, off, cp, rfl, h1, h2⟩
  · exact ⟨none, 0, rfl, Nat.le_refl _, fun h => by simp at h⟩
  · exact ⟨_, cp, rfl, h1, fun _ => ⟨b, off, rfl, h2⟩⟩
theorem RowsIn.left {G : Heap} {b off : Nat} {xs ys : List Value} (h : RowsIn G b off (xs ++ ys)) : RowsIn G b off xs := fun w hw => (h w hw).left
theorem RowsIn.own (b : Nat) (xs : List Value) (T : TypeId) : RowsIn [(b, blk xs T)] b 0 xs := fun w hw => Row.all (w := w) (b := b) (hw _ (.head _))
theorem RowsIn.dropE {G : Heap} {b off j cp : Nat} {l : List α} (h : RowsIn G b off (flat c l)) (hc : ∀ x, (c x).length = s) (hj : j ≤ l.length) (hcp : l.length ≤ cp) : RowsIn G b (cutAt off j s cp) (flat c (l.drop j)) :=
  fun w hw => row_dropE hc (sp := []) (by rw [List.append_nil]; exact h w hw) hj hcp
theorem RowsIn.takeE {G : Heap} {b off : Nat} {l : List α} (h : RowsIn G b off (flat c l)) (j : Nat) : RowsIn G b off (flat c (l.take j)) := fun w hw => by
  have h1 : flat c l = flat c (l.take j) ++ flat c (l.drop j) := by rw [← flat_append, List.take_append_drop]
  have h2 := h w hw
  rw [h1] at h2
  exact h2.left
end
/-- s[:h], whatever s is. -/
theorem cut_pre {P : Program} {e : Env} {d : Option Nat} {ty : TypeId} {pos : String} {af : Array Edge} {g : Option (Nat × Bool)} {t : TypeId} {x hi : Operand} {a : Option Addr} {n c el s : Nat} {jh : Int} (h : Nat)
    (hx : vnf (ev e x) = some (.slice a n c)) (hu : slcP P t = some (el, s)) (hhi : bndF e (some hi) = some (some jh)) (hh : jh = (h : Int)) (h2 : h ≤ c) :
    light P e ⟨d, .slice t x none (some hi) none, ty, pos, af, g⟩ = some (.slice a h c) := by
  obtain ⟨g1, g2⟩ := slcP_spec hu
  have hx := vnf_eq hx
  refine light_of_pure ?_ rfl
  have hb := bounds_run (e := e) (lo := none) (hi := some hi) (isS := true) (n := n) (c := c) (jl := none) (jh := some jh) 0 h rfl hhi rfl (by simpa using hh) (Nat.zero_le _) h2
  rw [Option.map_none] at hb
  simp only [execOp, hx, Instr.sliceAt, Instr.slice, bind_assoc, pure_underlying g1, Option.map_none, hb, pure_pure, pure_size g2]
  have : (if c = 0 then a else a.map (·.add (0 * s))) = a := by
    split
    · rfl
    · cases a <;> simp [Addr.add]
  rw [this]; rfl
/-- What lies behind lies apart. -/
theorem St.apart {w0 w : World} {ms : List Nat} {F R : Heap} (h : St w0 ms (F ++ R) w) {b : Nat} {o : Obj} (hm : (b, o) ∈ R) : b ∉ F.map (·.1) := fun hb => by
  have hn := h.nodup
  rw [List.map_append, List.nodup_append] at hn
  exact hn.2.2 _ hb _ (List.mem_map.2 ⟨_, hm, rfl⟩) rfl
end Go.VV
namespace Go.VV
open Go

/-- A string of bytes. -/
def bs (l : List UInt8) : ByteArray := ⟨⟨l⟩⟩
theorem bs_size (l : List UInt8) : (bs l).size = l.length := rfl
theorem bs_append (a b : List UInt8) : bs a ++ bs b = bs (a ++ b) := by
  apply ByteArray.ext
  simp [bs]
theorem bs_list (l : List UInt8) : (bs l).toList = l := by rw [ByteArray.toList_eq]; rfl
theorem bs_of (s : ByteArray) : bs s.data.toList = s := rfl
theorem bs_inj {a b : List UInt8} (h : bs a = bs b) : a = b := by
  have := congrArg (fun s => s.data.toList) h
  exact this
theorem bs_ne {a b : List UInt8} (h : a ≠ b) : bs a ≠ bs b := fun h' => h (bs_inj h')
theorem bs_extract (l : List UInt8) (a b : Nat) : (bs l).extract a b = bs ((l.drop a).take (b - a)) := ByteArray.extract_mk l a b
theorem bs_nums (l : List UInt8) : strOfNums (l.map fun b => (b.toNat : Int)) = bs l := by
  unfold strOfNums bs
  congr 1
  have : ((fun n : Int => UInt8.ofNat n.toNat) ∘ fun b : UInt8 => (b.toNat : Int)) = id := by funext b; simp
  rw [List.map_map, this, List.map_id]

section
variable {P : Program} {e : Env} {d : Option Nat} {ty t u : TypeId} {pos : String} {af : Array Edge} {g : Option (Nat × Bool)} {x y : Operand} {a b : List UInt8}
theorem light_cat (hx : vnf (ev e x) = some (.string (bs a))) (hy : vnf (ev e y) = some (.string (bs b))) (h : a.length + b.length ≤ 1000000) :
    light P e ⟨d, .binOp .add t x y u, ty, pos, af, g⟩ = some (.string (bs (a ++ b))) := by
  refine light_of_pure ?_ rfl
  have h1 : ¬ (((bs a).size + (bs b).size : Nat) : Int) > IntKind.i64.max := by
    have : IntKind.i64.max = 9223372036854775807 := by decide
    rw [bs_size, bs_size]; omega
  simp only [execOp, eqGuard, vnf_eq hx, vnf_eq hy, binOp, Op.stringOp, if_neg h1, bs_append]
  rfl
theorem light_eqstr (hx : vnf (ev e x) = some (.string (bs a))) (hy : vnf (ev e y) = some (.string (bs b))) :
    light P e ⟨d, .binOp .eql t x y u, ty, pos, af, g⟩ = some (.bool (a == b)) := by
  refine light_of_pure ?_ rfl
  simp [execOp, eqGuard, vnf_eq hx, vnf_eq hy, binOp, Op.stringOp, bs_list, pureOf, bind, Sem.bind, pure]
theorem light_nestr (hx : vnf (ev e x) = some (.string (bs a))) (hy : vnf (ev e y) = some (.string (bs b))) :
    light P e ⟨d, .binOp .neq t x y u, ty, pos, af, g⟩ = some (.bool (!(a == b))) := by
  refine light_of_pure ?_ rfl
  simp [execOp, eqGuard, vnf_eq hx, vnf_eq hy, binOp, Op.stringOp, bs_list, pureOf, bind, Sem.bind, pure]
theorem light_lenstr (hx : vnf (ev e x) = some (.string (bs a))) (hu : P.underlying t = some .string) :
    light P e ⟨d, .call ⟨.builtin .len, #[x], #[t]⟩, ty, pos, af, g⟩ = some (.int .i64 a.length) := light_lens hx hu
theorem light_idxstr {i : Operand} {k : IntKind} {j : Int} (m : Nat) {c : UInt8} (hx : vnf (ev e x) = some (.string (bs a))) (hi : vnf (ev e i) = some (.int k j)) (hu : P.underlying t = some .string) (hj : j = (m : Int)) (hc : a[m]? = some c) :
    light P e ⟨d, .index t x i, ty, pos, af, g⟩ = some (.int .u8 c.toNat) := by
  refine light_of_pure ?_ rfl
  subst hj
  have h1 : (bs a)[m]? = some c := by
    obtain ⟨h3, h4⟩ := List.getElem?_eq_some_iff.1 hc
    rw [ByteArray.getElem?_lt' (bs a) m h3, ← h4]; rfl
  have h2 : (if (0 : Int) ≤ (m : Int) then (bs a)[(m : Int).toNat]? else none) = some c := by
    rw [if_pos (by omega), Int.toNat_natCast, h1]
  simp only [execOp, Instr.index, vnf_eq hx, vnf_eq hi, asIntOf, bind_assoc, pure_pure, pure_underlying hu, h2]
  rfl
theorem light_cutstr {lo hi : Operand} {jl jh : Int} (l h : Nat) (hx : vnf (ev e x) = some (.string (bs a))) (hu : P.underlying t = some .string) (hlo : bndF e (some lo) = some (some jl)) (hhi : bndF e (some hi) = some (some jh))
    (hl : jl = (l : Int)) (hh : jh = (h : Int)) (h1 : l ≤ h) (h2 : h ≤ a.length) :
    light P e ⟨d, .slice t x (some lo) (some hi) none, ty, pos, af, g⟩ = some (.string (bs ((a.drop l).take (h - l)))) := by
  refine light_of_pure ?_ rfl
  have hx := vnf_eq hx
  have hb := bounds_run (e := e) (lo := some lo) (hi := some hi) (isS := false) (n := (bs a).size) (c := (bs a).size) (jl := some jl) (jh := some jh) l h hlo hhi (by simpa using hl) (by simpa using hh) h1 (by rw [bs_size]; exact h2)
  simp only [execOp, hx, Instr.sliceAt, Instr.slice, bind_assoc, pure_underlying hu, Option.map_none, Option.isSome_none, Bool.false_eq_true, if_false, hb, pure_pure, bs_extract]
  rfl
end

section
variable {Γ : Ctx} {e : Env} {H : Heap} {d : Option Nat} {ty t dst el : TypeId} {pos : String} {af : Array Edge} {g : Option (Nat × Bool)} {x : Operand}
def bytP (P : Program) (t : TypeId) : Bool := match P.underlying t with
  | some (.slice el) => (match P.underlying el with
    | some (.int .u8) => true
    | _ => false)
  | _ => false
def strT (P : Program) (t : TypeId) : Bool := match P.underlying t with
  | some .string => true
  | _ => false
/-- string(b), b bytes. -/
theorem x_str {b off n c : Nat} {l : List UInt8} (hx : vnf (ev e x) = some (.slice (some ⟨b, off, none⟩) n c)) (hs : bytP Γ.P t = true) (hd : strT Γ.P dst = true) (hn : l.length = n)
    (hr : ∀ w, St Γ.w0 Γ.ms H w → Row w b off (l.map fun c => .int .u8 c.toNat)) :
    Op1 Γ ⟨d, .convert t dst x, ty, pos, af, g⟩ e H (fun v H' => v = .string (bs l) ∧ H' = H) := by
  intro w hw
  have hx := vnf_eq hx
  unfold bytP at hs
  split at hs <;> try cases hs
  rename_i el h1
  split at hs <;> try cases hs
  rename_i h2
  unfold strT at hd
  split at hd <;> try cases hd
  rename_i h3
  have key := run_convert_bytes_arg (P := Γ.P) w t el h1 h2 b off n c (l.map fun c => (c.toNat : Int)) (by simpa using hn) (fun i hi => by
    have hi' : i < l.length := by omega
    have := hr w hw i (.int .u8 l[i].toNat) (by simp [hi'])
    simpa [List.getD, hi'] using this) dst h3
  rw [bs_nums] at key
  refine opW_run (v := .string (bs l)) (w' := w) ?_ ⟨_, hw, rfl, rfl⟩
  simp only [execOp, hx, Sem.run_bind, key, Result.andThen_ok, Sem.run_pure]
theorem x_str0 {n c : Nat} (hx : vnf (ev e x) = some (.slice none n c)) (hs : bytP Γ.P t = true) (hd : strT Γ.P dst = true) :
    Op1 Γ ⟨d, .convert t dst x, ty, pos, af, g⟩ e H (fun v H' => v = .string (bs []) ∧ H' = H) := by
  intro w hw
  have hx := vnf_eq hx
  unfold bytP at hs
  split at hs <;> try cases hs
  rename_i el h1
  split at hs <;> try cases hs
  rename_i h2
  unfold strT at hd
  split at hd <;> try cases hd
  rename_i h3
  have key := run_convert_bytes_nil (P := Γ.P) w t el h1 h2 n c dst h3
  refine opW_run (v := .string (bs [])) (w' := w) ?_ ⟨_, hw, rfl, rfl⟩
  simp only [execOp, hx, Sem.run_bind, key, Result.andThen_ok, Sem.run_pure]
  rfl
end
end Go.VV
namespace Go.VV
open Go

theorem setCell_heap {w : World} {b off : Nat} {l : List Value} {T : TypeId} {fr : Nat × Nat} (h : w.heap[b]? = some (.cells l.toArray T fr)) (v : Value) : (w.setCell ⟨b, off, none⟩ v).heap[b]? = some (.cells (l.set off v).toArray T fr) := by
  unfold World.setCell
  simp only
  rw [Array.getElem?_modify, if_pos rfl, h]
  simp
theorem setCell_otherB {w : World} {a : Addr} {v : Value} (k : Nat) (hk : k ≠ a.block) : (w.setCell a v).heap[k]? = w.heap[k]? := by
  unfold World.setCell
  simp only
  rw [Array.getElem?_modify, if_neg (Ne.symm hk)]
theorem St.setCell {w0 w : World} {ms : List Nat} {R : Heap} {b off : Nat} {l : List Value} {T : TypeId} (h : St w0 ms ((b, blk l T) :: R) w) (v : Value) : St w0 ms ((b, blk (l.set off v) T) :: R) (w.setCell ⟨b, off, none⟩ v) :=
  h.turn rfl rfl rfl (by simp) (fun k hk => setCell_otherB k hk) (setCell_heap (h.holds (b, _) (.head _)) v)
theorem frozen_blk {w : World} {b off : Nat} {l : List Value} {T : TypeId} (h : w.heap[b]? = some (blk l T)) : w.frozen? ⟨b, off, none⟩ = false := by
  simp [World.frozen?, h]
/-- Behind a call of the very blocks that it turned. -/
theorem St.after {w0 w w' : World} {ms : List Nat} {A B : Heap} (h : St w0 ms A w) (h' : St w (A.map (·.1)) B w') : St w0 ms B w' := by
  have h1 : St w0 ms (A ++ []) w := by simpa using h
  have := h1.call (F := A) (ms2 := A.map (·.1)) (fun b hb => mem_fst hb) h'
  simpa using this
end Go.VV
namespace Go.VV
open Go Go.RowKit
section
variable {Γ : Ctx} {e : Env} {H : Heap} {d : Option Nat} {ty : TypeId} {pos : String} {af : Array Edge} {g : Option (Nat × Bool)}
/-- append(s, t..), t empty. -/
theorem x_appendZ {t : TypeId} {x y : Operand} {T s by_ : Nat} {a a2 : Option Addr} {n cp n2 c2 : Nat} {ts : Array TypeId}
    (hx : vnf (ev e x) = some (.slice a n cp)) (hy : vnf (ev e y) = some (.slice a2 n2 c2)) (h0 : n2 = 0) (hts : ts = #[t, t]) (hp : appP Γ.P t = some (T, s, by_)) (hn : n ≤ cp) :
    Op1 Γ ⟨d, .call ⟨.builtin .append, #[x, y], ts⟩, ty, pos, af, g⟩ e H (fun v' H' => v' = .slice a n cp ∧ H' = H) := by
  intro w hw
  subst hts h0
  have hx := vnf_eq hx
  have hy := vnf_eq hy
  unfold appP at hp
  split at hp <;> try cases hp
  rename_i el hu
  split at hp <;> try cases hp
  rename_i ti hti
  split at hp <;> try cases hp
  rename_i z hz
  split at hp <;> try cases hp
  have key : (Builtin.append_ #[t, t] ty #[.slice a n cp, .slice a2 0 c2]).run Γ.P w = .ok (.slice a n cp) w := by
    cases a <;> cases a2 <;> simp [Builtin.append_, run_underlying hu, sizeOf, typeInfo, hti, Builtin.lenOf, Builtin.firstCells, hn, storeCells, loadCells, loadCellsFrom]
  refine opW_run (v := .slice a n cp) (w' := w) ?_ ⟨_, hw, rfl, rfl⟩
  simp only [execOp, resolve, Sem.run_bind, Sem.run_pure, Result.andThen_ok, invoke, builtin, List.map_toArray, List.map_cons, List.map_nil, hx, hy, key]
end
section
variable {α : Type} {c : α → List Value} {s : Nat}
/-- One cell of one element. -/
theorem putL_cell (hc : ∀ x, (c x).length = s) (l : List α) (sp : List Value) {i j : Nat} {x y : α} {v : Value} (hi : l[i]? = some x) (hj : j < s) (hy : (c x).set j v = c y) : putL (flat c l ++ sp) (0 + i * s + j) [v] = flat c (l.set i y) ++ sp := by
  obtain ⟨hlt, hx⟩ := List.getElem?_eq_some_iff.1 hi
  have h1 : l = l.take i ++ l[i] :: l.drop (i + 1) := split_at hlt
  have h2 : l.set i y = l.take i ++ y :: l.drop (i + 1) := by rw [List.set_eq_take_append_cons_drop, if_pos hlt]
  rw [hx] at h1
  have hj' : j < (c x).length := by rw [hc]; exact hj
  have hxs : c x = (c x).take j ++ ([(c x)[j]] ++ (c x).drop (j + 1)) := by simp
  have hys : c y = (c x).take j ++ ([v] ++ (c x).drop (j + 1)) := by rw [← hy, List.set_eq_take_append_cons_drop, if_pos hj']; rfl
  have hl : (flat c (l.take i) ++ (c x).take j).length = 0 + i * s + j := by rw [List.length_append, flat_len hc, List.length_take, List.length_take, hc, Nat.min_eq_left (by omega), Nat.min_eq_left (by omega)]; omega
  have h := putL_mid (flat c (l.take i) ++ (c x).take j) [(c x)[j]] ((c x).drop (j + 1) ++ (flat c (l.drop (i + 1)) ++ sp)) [v] rfl
  rw [hl] at h
  have e1 : flat c l ++ sp = flat c (l.take i) ++ (c x).take j ++ ([(c x)[j]] ++ ((c x).drop (j + 1) ++ (flat c (l.drop (i + 1)) ++ sp))) := by
    conv => lhs; rw [h1]
    rw [flat_append, flat_cons]
    conv => lhs; rw [hxs]
    simp only [List.append_assoc]
  have e2 : flat c (l.set i y) ++ sp = flat c (l.take i) ++ (c x).take j ++ ([v] ++ ((c x).drop (j + 1) ++ (flat c (l.drop (i + 1)) ++ sp))) := by
    rw [h2, flat_append, flat_cons, hys]
    simp only [List.append_assoc]
  rw [e1, e2]; exact h
theorem flat_room (hc : ∀ x, (c x).length = s) (l : List α) (sp : List Value) {i j : Nat} (hi : i < l.length) (hj : j < s) : 0 + i * s + j + 1 ≤ (flat c l ++ sp).length := by
  rw [List.length_append, flat_len hc]
  have h1 : i * s + s ≤ l.length * s := by rw [← Nat.succ_mul]; exact Nat.mul_le_mul_right _ hi
  omega
end
end Go.VV
namespace Go.VV
open Go Go.RowKit
section
variable {Γ : Ctx} {e : Env} {H : Heap} {d : Option Nat} {ty : TypeId} {pos : String} {af : Array Edge} {g : Option (Nat × Bool)}

theorem run_append_grow_zeros {P : Program} (w : World) (t tn ty e : TypeId) (i : TypeInfo) (z : Value) (k kn : IntKind) (ht : P.underlying t = some (.slice e)) (htn : P.underlying tn = some (.int kn)) (hi : P.info? e = some i) (hz : i.zero = some z)
    (b : Addr) (sLen sCap n : Nat) (olds : List Value) (hlo : olds.length = sLen * i.size) (holds : ∀ j v, olds[j]? = some v → w.cell? (b.add j) = some v)
    (h0 : 0 < n) (hs : 0 < i.size) (hg : sCap < sLen + n) (h63 : ((sLen + n : Nat) : Int) ≤ 9223372036854775807) (hfit : Builtin.nextslicecap (sLen + n) sCap * i.bytes ≤ 281474976710656) (h48 : n * i.bytes ≤ 281474976710656) :
    (Builtin.append_ #[t, tn] ty #[.slice (some b) sLen sCap, .int k n]).run P w =
      .ok (.slice (some ⟨w.heap.size, 0, none⟩) (sLen + n) (grownCap w (sLen + n) sCap e)) (w.drew.alloc (.cells (olds.toArray ++ Builtin.zeroCells z.cells n ++ Builtin.zeroCells z.cells (grownCap w (sLen + n) sCap e - (sLen + n))) e)) := by
  have hn : n ≠ 0 := by omega
  have hw : IntKind.i64.wrap (n : Int) = n := by rw [IntKind.wrap_i64]; omega
  have hnc : ¬ (sLen + n ≤ sCap) := by omega
  have h63' : ¬ (9223372036854775807 < ((sLen : Int) + (n : Int))) := by omega
  have h48' : ¬ (281474976710656 < Builtin.nextslicecap (sLen + n) sCap * i.bytes) := by omega
  have h48i : ¬ (281474976710656 < (n : Int) * (i.bytes : Int)) := by
    rw [← Int.natCast_mul]
    omega
  have hneg : ¬ ((n : Int) < 0) := by omega
  have hns : ¬ (n * i.size = 0) := Nat.mul_ne_zero hn (by omega)
  have hfo := run_firstCells_some (P := P) w.drew i.size sLen b sLen sCap olds hlo (by simpa using holds)
  simp [Builtin.append_, run_underlying ht, run_underlying htn, sizeOf, typeInfo, zeroValue, hi, hz, asInt, asIntOf, hw, hneg, hns, hnc, h63', h48', h48i, Question.forced, hfo, newRow, grownCap]

def isInt (P : Program) (t : TypeId) : Bool := match P.underlying t with
  | some (.int _) => true
  | _ => false
/-- append(s, make([]T, n)..) where it grows. -/
theorem x_appendM {t tn : TypeId} {x y : Operand} {T s by_ : Nat} {b off n k cp : Nat} {kk : IntKind} {olds : List Value} {ts : Array TypeId}
    (hx : vnf (ev e x) = some (.slice (some ⟨b, off, none⟩) k cp)) (hy : vnf (ev e y) = some (.int kk n)) (hts : ts = #[t, tn]) (htn : isInt Γ.P tn = true) (hp : appP Γ.P t = some (T, s, by_))
    (hr : ∀ w, St Γ.w0 Γ.ms H w → Row w b off olds) (hlo : olds.length = k * s) (h0 : 0 < n) (hg : cp < k + n) (hlen : k + n ≤ 1000000) (hb : by_ ≤ 1000) :
    Op1 Γ ⟨d, .call ⟨.builtin .append, #[x, y], ts⟩, ty, pos, af, g⟩ e H (fun v' H' => ∃ b' cap sp, v' = .slice (some ⟨b', 0, none⟩) (k + n) cap ∧ H' = (b', blk (olds ++ sp) T) :: H ∧ (olds ++ sp).length = cap * s ∧ k + n ≤ cap ∧ cap ≤ maxLen) := by
  intro w hw
  subst hts
  have hx := vnf_eq hx
  have hy := vnf_eq hy
  unfold isInt at htn
  split at htn <;> try cases htn
  rename_i kn hkn
  unfold appP at hp
  split at hp <;> try cases hp
  rename_i el hu
  split at hp <;> try cases hp
  rename_i ti hti
  split at hp <;> try cases hp
  rename_i z hz
  split at hp <;> try cases hp
  rename_i hzs
  obtain ⟨hz1, hz2⟩ := hzs
  have hfit : Builtin.nextslicecap (k + n) cp * ti.bytes ≤ 281474976710656 := growslice_fits (by omega) (by
    have : (k + n) * ti.bytes ≤ 1000000 * 1000 := Nat.mul_le_mul hlen hb
    omega)
  have h48 : n * ti.bytes ≤ 281474976710656 := by
    have : n * ti.bytes ≤ 1000000 * 1000 := Nat.mul_le_mul (by omega) hb
    omega
  have key := run_append_grow_zeros (P := Γ.P) w t tn ty T ti z kk kn hu hkn hti hz ⟨b, off, none⟩ k cp n olds hlo (hr w hw).add h0 hz2 hg (by omega) hfit h48
  have hge := grownCap_ge w (k + n) cp T
  have hcm : grownCap w (k + n) cp T ≤ maxLen := grownCap_le_maxLen w (k + n) cp T (by unfold maxLen; omega)
  have harr : olds.toArray ++ Builtin.zeroCells z.cells n ++ Builtin.zeroCells z.cells (grownCap w (k + n) cp T - (k + n)) = (olds ++ (Builtin.zeroCells z.cells n ++ Builtin.zeroCells z.cells (grownCap w (k + n) cp T - (k + n))).toList).toArray := by
    apply Array.ext'
    simp
  rw [harr] at key
  generalize hZ : (Builtin.zeroCells z.cells n ++ Builtin.zeroCells z.cells (grownCap w (k + n) cp T - (k + n))).toList = Z at key
  have hzl : (olds ++ Z).length = grownCap w (k + n) cp T * ti.size := by
    rw [← hZ]
    simp only [List.length_append, Array.length_toList, Array.size_append, size_zeroCells, hz1, hlo, ← Nat.add_mul]
    congr 1
    omega
  refine opW_run (v := .slice (some ⟨w.heap.size, 0, none⟩) (k + n) (grownCap w (k + n) cp T)) (w' := w.drew.alloc (blk (olds ++ Z) T)) ?_ ⟨_, hw.drew.alloc _, w.heap.size, grownCap w (k + n) cp T, Z, rfl, rfl, hzl, hge, hcm⟩
  simp only [execOp, resolve, Sem.run_bind, Sem.run_pure, Result.andThen_ok, invoke, builtin, List.map_toArray, List.map_cons, List.map_nil, hx, hy, key]

/-- copy(dst, src), elements of 's' cells; the source is read ahead of what is written. -/
theorem x_copyE {x y : Operand} {ts : Array TypeId} {tx ty2 el s : TypeId} {b off dl dc b2 off2 m c2 : Nat} {l ys : List Value} {T : TypeId} (i : Nat)
    (hx : vnf (ev e x) = some (.slice (some ⟨b, off, none⟩) dl dc)) (hy : vnf (ev e y) = some (.slice (some ⟨b2, off2, none⟩) m c2)) (hts : ts = #[tx, ty2]) (hu : slcP Γ.P tx = some (el, s))
    (hi : H[i]? = some (b, blk l T)) (hn : ys.length = min m dl * s) (hs : ∀ w, St Γ.w0 Γ.ms H w → Row w b2 off2 ys) (h1 : ones ys = true) (hl : off + ys.length ≤ l.length) :
    Op1 Γ ⟨d, .call ⟨.builtin .copy, #[x, y], ts⟩, ty, pos, af, g⟩ e H (fun v H' => v = .int .i64 (min m dl : Nat) ∧ H' = H.set i (b, blk (putL l off ys) T)) := by
  intro w hw
  subst hts
  obtain ⟨g1, g2⟩ := slcP_spec hu
  have hx := vnf_eq hx
  have hy := vnf_eq hy
  have hg : w.heap[b]? = some (blk l T) := hw.own_blk (List.mem_of_getElem? hi)
  have hrun : (Builtin.copy_ #[tx, ty2] ty #[.slice (some ⟨b, off, none⟩) dl dc, .slice (some ⟨b2, off2, none⟩) m c2]).run Γ.P w = .ok (goInt (min m dl : Nat)) (w.setRow b (putL l off ys).toArray) := by
    have hl1 := run_loadCells_list (P := Γ.P) w ⟨b2, off2, none⟩ ys (hs w hw).add
    have hst := run_storeCells_at Γ.P b off T ys 0 l.toArray w hg (by simpa using hl) (by simpa [ones] using h1)
    simp only [Nat.add_zero] at hst
    have hsz := run_sizeOf g2 w
    have e1 : putL l off ys = l.take off ++ ys ++ l.drop (off + ys.length) := rfl
    rw [hn] at hl1
    simp [Builtin.copy_, run_underlying g1, Builtin.lenOf, Builtin.firstCells, hsz, hl1, hst, e1]
  refine opW_run (v := .int .i64 (min m dl : Nat)) (w' := w.setRow b (putL l off ys).toArray) ?_ ⟨_, ?_, rfl, rfl⟩
  · simp only [execOp, resolve, Sem.run_bind, Sem.run_pure, Result.andThen_ok, invoke, builtin, List.map_toArray, List.map_cons, List.map_nil, hx, hy, hrun]
    rfl
  · exact hw.setAt hi rfl rfl rfl (by simp [World.setRow]) (fun k hk => setRow_other w b k _ hk) (setRow_heap w b _ _ T _ hg)

/-- slices.overlaps of two slices in two blocks. -/
theorem x_ovl {f : Nat} {l : List Operand} {ts : Array TypeId} {fn : Func} {tS tR el size : Nat} {ba oa la ca bb ob lb cb : Nat} {lA lB : List Value} {TA TB : TypeId}
    (hf : Γ.P.funcs[f]? = some fn) (hname : (fn.name == "runtime.NumGoroutine") = false) (hbd : fn.body.isNone = true) (hnx : Extern.findNext fn = none) (he : Extern.find fn = some (Extern.SlicesOverlaps.overlaps #[tS, tS] #[tR]))
    (hu : slcP Γ.P tS = some (el, size)) (hv : evs e l = some [.slice (some ⟨ba, oa, none⟩) la ca, .slice (some ⟨bb, ob, none⟩) lb cb]) (hne : ba ≠ bb)
    (hA : ∀ w, St Γ.w0 Γ.ms H w → w.heap[ba]? = some (blk lA TA)) (hB : ∀ w, St Γ.w0 Γ.ms H w → w.heap[bb]? = some (blk lB TB)) (hlB : lB.length ≠ 0) :
    Op1 Γ ⟨d, .call ⟨.value (.func f), l.toArray, ts⟩, ty, pos, af, g⟩ e H (fun v H' => v = .bool false ∧ H' = H) := by
  intro w hw
  obtain ⟨g1, g2⟩ := slcP_spec hu
  have hkA := hA w hw
  have hkB := hB w hw
  have key := Lib.run_overlaps_apart (P := Γ.P) w tS tR el g1 size (fun w => run_sizeOf g2 w) ⟨ba, oa, none⟩ ⟨bb, ob, none⟩ la ca lb cb hne TA TB lA.length lB.length
    (by simp [World.shape?, hkA]) (by simp [World.shape?, hkB]) hlB (frozen_blk hkA) (frozen_blk hkA)
  have hrun := run_callFunc_extern (P := Γ.P) (f := f) hf hname hbd hnx he #[.slice (some ⟨ba, oa, none⟩) la ca, .slice (some ⟨bb, ob, none⟩) lb cb] w
  rw [key] at hrun
  refine opW_run (v := .bool false) (w' := w) ?_ ⟨_, hw, rfl, rfl⟩
  have hm : (l.toArray.map (ev e)) = #[.slice (some ⟨ba, oa, none⟩) la ca, .slice (some ⟨bb, ob, none⟩) lb cb] := by
    rw [List.map_toArray, evs_eq hv]
  simp only [execOp, resolve, ev, Deferred.ofValue, invoke, hm, pure_bind, Array.empty_append]
  exact hrun
end
section
variable {P : Program} {e : Env} {d : Option Nat} {ty t : TypeId} {pos : String} {af : Array Edge} {g : Option (Nat × Bool)} {x : Operand}
theorem light_cap {a : Option Addr} {n c : Nat} (hx : vnf (ev e x) = some (.slice a n c)) (hu : isSlc P t = true) :
    light P e ⟨d, .call ⟨.builtin .cap, #[x], #[t]⟩, ty, pos, af, g⟩ = some (.int .i64 c) := by
  refine light_of_pure ?_ rfl
  have hx := vnf_eq hx
  unfold isSlc at hu
  split at hu
  · rename_i el h1
    simp only [execOp, resolve, List.map_toArray, List.map_cons, List.map_nil, hx, pure_pure, invoke, builtin, Builtin.cap_, bind_assoc, List.getElem?_toArray, List.getElem?_cons_zero, pure_underlying h1]
    rfl
  · cases hu
theorem Row.takeE {α : Type} {c : α → List Value} {w : World} {b off : Nat} {l : List α} (h : Row w b off (flat c l)) (j : Nat) : Row w b off (flat c (l.take j)) := by
  have h1 : flat c l = flat c (l.take j) ++ flat c (l.drop j) := by rw [← flat_append, List.take_append_drop]
  rw [h1] at h
  exact h.left
end
end Go.VV
namespace Go.VV
open Go Go.RowKit

theorem putL_right {A B vs : List Value} {o n : Nat} (ho : o = A.length + n) (_h : n + vs.length ≤ B.length) : putL (A ++ B) o vs = A ++ putL B n vs := by
  subst ho
  unfold putL
  rw [List.take_append, List.drop_append, List.take_of_length_le (by omega), List.drop_of_length_le (by omega), List.nil_append, show A.length + n - A.length = n by omega, show A.length + n + vs.length - A.length = n + vs.length by omega]
  simp
theorem putL_left {A B vs : List Value} {o : Nat} (h : o + vs.length ≤ A.length) : putL (A ++ B) o vs = putL A o vs ++ B := by
  unfold putL
  rw [List.take_append_of_le_length (by omega), List.drop_append_of_le_length (by omega)]
  simp
/-- .. in a list of numbers. -/
def putI (l : List Int) (o : Nat) (vs : List Int) : List Int := l.take o ++ vs ++ l.drop (o + vs.length)
theorem putI_len {l vs : List Int} {o : Nat} (h : o + vs.length ≤ l.length) : (putI l o vs).length = l.length := by
  unfold putI; simp; omega
theorem putI_map (k : IntKind) (l vs : List Int) (o : Nat) : putL (l.map (.int k)) o (vs.map (.int k)) = (putI l o vs).map (.int k) := by
  unfold putL putI; simp [List.map_take, List.map_drop]
theorem putI_one {l : List Int} {o : Nat} (h : o < l.length) (x : Int) : putI l o [x] = l.set o x := by
  unfold putI
  rw [List.set_eq_take_append_cons_drop, if_pos h]
  simp
theorem putL_int {l : List Int} {o : Nat} (k : IntKind) (h : o < l.length) (x : Int) : putL (l.map (.int k)) o [.int k x] = (l.set o x).map (.int k) := by
  have := putI_map k l [x] o
  rw [putI_one h] at this
  exact this
theorem map_at {l : List Int} {k : IntKind} {j : Nat} (h : j < l.length) : (l.map (Value.int k))[j]? = some (.int k (l.getD j 0)) := by
  rw [List.getElem?_map, List.getElem?_eq_getElem h, List.getD_eq_getElem?_getD, List.getElem?_eq_getElem h]; rfl
theorem get_left {A B : List Value} {o : Nat} {v : Value} (h : A[o]? = some v) : (A ++ B)[o]? = some v := by
  have hl : o < A.length := (List.getElem?_eq_some_iff.1 h).1
  rw [List.getElem?_append_left hl]; exact h
theorem get_right {A B : List Value} {o n : Nat} {v : Value} (ho : o = A.length + n) (h : B[n]? = some v) : (A ++ B)[o]? = some v := by
  subst ho
  rw [List.getElem?_append_right (by omega)]
  simpa using h
theorem Row.right {w : World} {b off n : Nat} {A B : List Value} (h : Row w b off (A ++ B)) (hn : n = off + A.length) : Row w b n B := fun j v hv => by
  subst hn
  have := h (A.length + j) v (get_right rfl hv)
  rwa [← Nat.add_assoc] at this
section
variable {Γ : Ctx} {e : Env} {H : Heap} {d : Option Nat} {ty : TypeId} {pos : String} {af : Array Edge} {g : Option (Nat × Bool)}
/-- A store, and what the block is then. -/
theorem x_storeTo {t : TypeId} {x y : Operand} {b off : Nat} {v : Value} {vs l l' : List Value} {T : TypeId} (i : Nat)
    (hx : vnf (ev e x) = some (.pointer (some ⟨b, off, none⟩))) (hy : vnf (ev e y) = some v) (hv : cellsF v = some vs) (hn : sizeP Γ.P t = some vs.length) (h1 : ones vs = true)
    (hi : H[i]? = some (b, blk l T)) (hl : off + vs.length ≤ l.length) (hp : putL l off vs = l') :
    Op1 Γ ⟨d, .store t x y, ty, pos, af, g⟩ e H (fun u H' => u = undef ∧ H' = H.set i (b, blk l' T)) := by
  subst hp
  exact x_store i hx hy hv hn h1 hi hl
end
end Go.VV
namespace Go.VV
open Go Go.ChangeShapes Go.WideShapes Go.ChangeAt Go.RowKit

/-- What a cell is: as CK, or a slice of numbers, or a slice of flat elements. -/
inductive KD where
  | int (k : IntKind)
  | bool
  | str
  | ints (k : IntKind)
  | rows (ks : List CK)
def kdOk (W : World) : KD → Value → Prop
  | .int k, v => ∃ n, v = .int k n ∧ (Lit.int k n).wf = true
  | .bool, v => ∃ b, v = .bool b
  | .str, v => ∃ s : ByteArray, v = .string s ∧ s.size ≤ maxLen
  | .ints k, v => ∃ (a : Option Addr) (c : Nat) (l : List Int), v = .slice a l.length c ∧ l.length ≤ c ∧ l.length ≤ maxLen ∧ (∀ x ∈ l, (Lit.int k x).wf = true) ∧ Ns W k a l
  | .rows ks, v => ∃ (a : Option Addr) (c : Nat) (l : List (List Value)), v = .slice a l.length c ∧ l.length ≤ c ∧ l.length ≤ maxLen ∧ (∀ x ∈ l, Cks ks x) ∧ Els W id a l
/-- Cell by cell. -/
def KDs (W : World) : List KD → List Value → Prop
  | [], [] => True
  | k :: ks, v :: vs => kdOk W k v ∧ KDs W ks vs
  | _, _ => False
theorem KDs.app {W : World} : ∀ {a b : List KD} {x y : List Value}, KDs W a x → KDs W b y → KDs W (a ++ b) (x ++ y)
  | [], _, [], _, _, h => h
  | _ :: _, _, _ :: _, _, h, h2 => ⟨h.1, KDs.app h.2 h2⟩
  | [], _, _ :: _, _, h, _ => h.elim
  | _ :: _, _, [], _, h, _ => h.elim
theorem KDs.len {W : World} : ∀ {a : List KD} {x : List Value}, KDs W a x → a.length = x.length
  | [], [], _ => rfl
  | _ :: _, _ :: _, h => by simp [KDs.len h.2]
  | [], _ :: _, h => h.elim
  | _ :: _, [], h => h.elim
theorem kd_i {W : World} {k : IntKind} {ks : List KD} {cs : List Value} (h : KDs W (.int k :: ks) cs) : ∃ n vs, cs = .int k n :: vs ∧ (Lit.int k n).wf = true ∧ KDs W ks vs := by
  cases cs with
  | nil => exact h.elim
  | cons v vs => obtain ⟨⟨n, rfl, hn⟩, h2⟩ := h; exact ⟨n, vs, rfl, hn, h2⟩
theorem kd_b {W : World} {ks : List KD} {cs : List Value} (h : KDs W (.bool :: ks) cs) : ∃ b vs, cs = .bool b :: vs ∧ KDs W ks vs := by
  cases cs with
  | nil => exact h.elim
  | cons v vs => obtain ⟨⟨n, rfl⟩, h2⟩ := h; exact ⟨n, vs, rfl, h2⟩
theorem kd_s {W : World} {ks : List KD} {cs : List Value} (h : KDs W (.str :: ks) cs) : ∃ s vs, cs = .string s :: vs ∧ s.size ≤ maxLen ∧ KDs W ks vs := by
  cases cs with
  | nil => exact h.elim
  | cons v vs => obtain ⟨⟨n, rfl, hn⟩, h2⟩ := h; exact ⟨n, vs, rfl, hn, h2⟩
theorem kd_is {W : World} {k : IntKind} {ks : List KD} {cs : List Value} (h : KDs W (.ints k :: ks) cs) :
    ∃ (a : Option Addr) (c : Nat) (l : List Int) (vs : List Value), cs = .slice a l.length c :: vs ∧ l.length ≤ c ∧ l.length ≤ maxLen ∧ (∀ x ∈ l, (Lit.int k x).wf = true) ∧ Ns W k a l ∧ KDs W ks vs := by
  cases cs with
  | nil => exact h.elim
  | cons v vs => obtain ⟨⟨a, c, l, rfl, h1, h2, h3, h4⟩, h5⟩ := h; exact ⟨a, c, l, vs, rfl, h1, h2, h3, h4, h5⟩
theorem kd_rs {W : World} {kk : List CK} {ks : List KD} {cs : List Value} (h : KDs W (.rows kk :: ks) cs) :
    ∃ (a : Option Addr) (c : Nat) (l : List (List Value)) (vs : List Value), cs = .slice a l.length c :: vs ∧ l.length ≤ c ∧ l.length ≤ maxLen ∧ (∀ x ∈ l, Cks kk x) ∧ Els W id a l ∧ KDs W ks vs := by
  cases cs with
  | nil => exact h.elim
  | cons v vs => obtain ⟨⟨a, c, l, rfl, h1, h2, h3, h4⟩, h5⟩ := h; exact ⟨a, c, l, vs, rfl, h1, h2, h3, h4, h5⟩
theorem kd_0 {W : World} {cs : List Value} (h : KDs W [] cs) : cs = [] := by
  cases cs with
  | nil => rfl
  | cons v vs => exact h.elim
/-- Rows of cells as rows of what they are. -/
theorem els_map {α : Type} {c : α → List Value} {W : World} {a : Option Addr} {l : List (List Value)} {p : α → Prop} {q : List Value → Prop} (hq : ∀ x ∈ l, q x) (hp : ∀ cs, q cs → ∃ x, cs = c x ∧ p x) (h : Els W id a l) :
    ∃ L : List α, L.length = l.length ∧ (∀ x ∈ L, p x) ∧ Els W c a L := by
  obtain ⟨L, rfl, hL⟩ := map_of (f := c) (p := p) (L := l) fun r hr => by
    obtain ⟨x, h1, h2⟩ := hp r (hq r hr); exact ⟨x, h1, h2⟩
  refine ⟨L, by simp, hL, fun h0 => ?_⟩
  obtain ⟨b, off, h1, h2⟩ := h (by simpa using h0)
  refine ⟨b, off, h1, ?_⟩
  have : flat id (L.map c) = flat c L := by unfold flat; simp [List.flatMap]
  rwa [this] at h2

theorem flat_ints (k : IntKind) : ∀ l : List Int, flat (fun x : Int => [Value.int k x]) l = l.map (.int k)
  | [] => rfl
  | x :: l => by rw [flat_cons, flat_ints k l]; rfl

section
variable (P : Program)
def kindsDF (f : TypeId → Option (List KD)) : List Field → Nat → Option (List KD)
  | [], _ => some []
  | fd :: r, off => match f fd.type with
    | some ks => bif Nat.beq fd.offset off && Nat.beq (P.cellsOf fd.type) ks.length then (match kindsDF f r (off + ks.length) with
      | some rs => some (ks ++ rs)
      | none => none) else none
    | none => none
def kindE (e : TypeId) : Option KD := match P.underlying e with
  | some (.int k) => bif Nat.beq (P.cellsOf e) 1 then some (.ints k) else none
  | _ => match kinds P 9 e with
    | some ks => bif Nat.beq (P.cellsOf e) ks.length && Nat.blt 0 ks.length then some (.rows ks) else none
    | none => none
def kindsD : Nat → TypeId → Option (List KD)
  | 0, _ => none
  | n + 1, t => match P.underlying t with
    | some (.int k) => some [.int k]
    | some .bool => some [.bool]
    | some .string => some [.str]
    | some (.slice e) => (kindE P e).map fun k => [k]
    | some (.struct ⟨fs⟩) => match kindsDF P (kindsD n) fs 0 with
      | some ks => bif Nat.beq (P.cellsOf t) ks.length then some ks else none
      | none => none
    | _ => none
end

section
variable {H : Type} {enc : TypeId × Value → H} {P : Program} {W : World}
/-- A slice's cells: its elements. -/
theorem trod_elems {α : Type} {t e : TypeId} {c : α → List Value} {p : α → Prop} (ht : P.underlying t = some (.slice e)) (hs : 0 < P.cellsOf e)
    (hk : ∀ {n : Nat} {cs : List Value} {y : DataW H × List MemPlace}, DataW.trod enc P W 0 (fun _ => true) true n e cs = some y → ∃ x, cs = c x ∧ p x)
    {n : Nat} {cs : List Value} {y : DataW H × List MemPlace} (hf : DataW.trod enc P W 0 (fun _ => true) true n t cs = some y) :
    ∃ (a : Option Addr) (cp : Nat) (l : List α), cs = [.slice a l.length cp] ∧ l.length ≤ cp ∧ l.length ≤ maxLen ∧ (∀ x ∈ l, p x) ∧ Els W c a l := by
  rcases Deep.open_slice ht hf with ⟨hcs, _⟩ | ⟨x, len, cap, m, n, D, Pl, rfl, _, hl, hm, hmm, _, hel⟩
  · exact ⟨none, 0, [], by simpa using hcs, Nat.le_refl _, Nat.zero_le _, fun _ h => (by cases h), Els.nil _ _ _⟩
  · have hlm : len ≤ m := by rw [hmm]; split <;> omega
    have key : ∀ i, i < len → ∃ y : α, (∀ j, j < P.cellsOf e → W.cell? ((x.add (i * P.cellsOf e)).add j) = (c y)[j]?) ∧ (c y).length = P.cellsOf e ∧ p y := fun i hi => by
      obtain ⟨cs, h1, h2⟩ := hel i (by omega)
      obtain ⟨_, h3, h4⟩ := World.cells?_some h1
      obtain ⟨y, rfl, hy⟩ := hk h2
      exact ⟨y, h4, h3, hy⟩
    have hne : ∀ i, i < len → ∃ y : Option α, ∃ z, y = some z ∧ (∀ j, j < P.cellsOf e → W.cell? ((x.add (i * P.cellsOf e)).add j) = (c z)[j]?) ∧ (c z).length = P.cellsOf e ∧ p z := fun i hi => by
      obtain ⟨y, h1⟩ := key i hi; exact ⟨some y, y, rfl, h1⟩
    obtain ⟨f, hfy⟩ := Deep.choose_lt hne
    have hex : ∀ o ∈ (List.range len).map f, ∃ z, o = some z ∧ p z := fun o ho => by
      obtain ⟨i, hi, rfl⟩ := List.mem_map.1 ho
      obtain ⟨z, h1, _, _, h4⟩ := hfy i (List.mem_range.1 hi)
      exact ⟨z, h1, h4⟩
    obtain ⟨L, hL, hLp⟩ := map_of hex
    have hlen : L.length = len := by
      have := congrArg List.length hL
      simpa using this.symm
    refine ⟨some x, cap, L, by rw [hlen], by omega, by omega, hLp, fun h0 => ?_⟩
    obtain ⟨b, off, spot⟩ := x
    have hg : ∀ i, (hi : i < L.length) → f i = some L[i] := fun i hi => by
      have h5 : ((List.range len).map f)[i]? = (L.map some)[i]? := by rw [hL]
      rw [List.getElem?_map, List.getElem?_map, List.getElem?_range (by omega), List.getElem?_eq_getElem hi] at h5
      simpa using h5
    have hcell : ∀ i j, (hi : i < L.length) → j < P.cellsOf e → W.cell? (((⟨b, off, spot⟩ : Addr).add (i * P.cellsOf e)).add j) = (c L[i])[j]? ∧ (c L[i]).length = P.cellsOf e := fun i j hi hj => by
      obtain ⟨z, h1, h2, h3, _⟩ := hfy i (by omega)
      have h6 := hg i hi
      rw [h1] at h6
      cases h6
      exact ⟨h2 j hj, h3⟩
    have hspot : spot = none := by
      obtain ⟨h7, h8⟩ := hcell 0 0 h0 hs
      rw [List.getElem?_eq_getElem (by omega)] at h7
      simpa [Addr.add] using World.cell?_spot h7
    subst hspot
    refine ⟨b, off, rfl, fun k v hv => ?_⟩
    have hcl : ∀ z ∈ L, (c z).length = P.cellsOf e := fun z hz => by
      obtain ⟨i, hi, rfl⟩ := List.getElem_of_mem hz
      exact (hcell i 0 hi hs).2
    have main : ∀ (L : List α) (o : Nat), (∀ i j, (hi : i < L.length) → j < P.cellsOf e → W.cell? ⟨b, o + (i * P.cellsOf e + j), none⟩ = (c L[i])[j]?) → (∀ z ∈ L, (c z).length = P.cellsOf e) → ∀ k v, (flat c L)[k]? = some v → W.cell? ⟨b, o + k, none⟩ = some v := by
      intro L
      induction L with
      | nil => intro o _ _ k v hv; simp [flat] at hv
      | cons z L ih =>
        intro o hc1 hc2 k v hv
        have hz := hc2 z (.head _)
        rw [flat_cons] at hv
        rcases Nat.lt_or_ge k (P.cellsOf e) with hk1 | hk1
        · rw [List.getElem?_append_left (by omega)] at hv
          have := hc1 0 k (by simp) hk1
          rw [Nat.zero_mul, Nat.zero_add] at this
          rw [this]; exact hv
        · rw [List.getElem?_append_right (by omega), hz] at hv
          have h9 := ih (o + P.cellsOf e) (fun i j hi hj => by
            have := hc1 (i + 1) j (by simpa using hi) hj
            rw [Nat.add_mul, Nat.one_mul] at this
            rw [show o + P.cellsOf e + (i * P.cellsOf e + j) = o + (i * P.cellsOf e + P.cellsOf e + j) by omega]
            exact this) (fun y hy => hc2 y (.tail _ hy)) (k - P.cellsOf e) v hv
          rw [show o + P.cellsOf e + (k - P.cellsOf e) = o + k by omega] at h9
          exact h9
    refine main L off (fun i j hi hj => ?_) hcl k v hv
    have := (hcell i j hi hj).1
    rw [add_mk, add_mk] at this
    rw [show off + (i * P.cellsOf e + j) = off + i * P.cellsOf e + j by omega]
    exact this

theorem kindE_ok {t e : TypeId} {k : KD} {n : Nat} {cs : List Value} {y : DataW H × List MemPlace} (ht : P.underlying t = some (.slice e)) (hk : kindE P e = some k) (hy : DataW.trod enc P W 0 (fun _ => true) true n t cs = some y) : KDs W [k] cs := by
  unfold kindE at hk
  split at hk
  · rename_i kk he
    by_cases hb : Nat.beq (P.cellsOf e) 1 = true
    · rw [hb, cond_true] at hk
      cases hk
      have hc := Nat.eq_of_beq_eq_true hb
      obtain ⟨a, cp, l, rfl, h1, h2, h3, h4⟩ := trod_elems (c := fun x : Int => [Value.int kk x]) (p := fun x => (Lit.int kk x).wf = true) ht (by omega) (fun {n cs y} hy => by
        obtain ⟨x, rfl, _, hw⟩ := DataW.trod_int he hy
        exact ⟨x, rfl, hw⟩) hy
      refine ⟨⟨a, cp, l, rfl, h1, h2, h3, fun h0 => ?_⟩, trivial⟩
      obtain ⟨b, off, g1, g2⟩ := h4 h0
      refine ⟨b, off, g1, ?_⟩
      rwa [flat_ints] at g2
    · simp only [Bool.not_eq_true] at hb
      rw [hb, cond_false] at hk
      cases hk
  · split at hk
    · rename_i ks hks
      by_cases hb : (Nat.beq (P.cellsOf e) ks.length && Nat.blt 0 ks.length) = true
      · rw [hb, cond_true] at hk
        cases hk
        simp only [Bool.and_eq_true] at hb
        have hc := Nat.eq_of_beq_eq_true hb.1
        have h0 : 0 < ks.length := Nat.lt_of_lt_of_le Nat.zero_lt_one (Nat.le_of_ble_eq_true hb.2)
        obtain ⟨a, cp, l, rfl, h1, h2, h3, h4⟩ := trod_elems (c := id) (p := fun x => Cks ks x) ht (by omega) (fun {n cs y} hy => ⟨cs, rfl, kinds_ok 9 hks hy⟩) hy
        exact ⟨⟨a, cp, l, rfl, h1, h2, h3, h4⟩, trivial⟩
      · simp only [Bool.not_eq_true] at hb
        rw [hb, cond_false] at hk
        cases hk
    · cases hk
theorem kindsDF_ok {f : TypeId → Option (List KD)} {n : Nat} {cs : List Value} (hf : ∀ {t : TypeId} {ks : List KD} {xs : List Value} {y : DataW H × List MemPlace}, f t = some ks → DataW.trod enc P W 0 (fun _ => true) true n t xs = some y → KDs W ks xs) :
    ∀ (fs : List Field) (off : Nat) (ks : List KD), kindsDF P f fs off = some ks → (∀ fd ∈ fs, ∃ y, DataW.trod enc P W 0 (fun _ => true) true n fd.type ((cs.drop fd.offset).take (P.cellsOf fd.type)) = some y) → KDs W ks ((cs.drop off).take ks.length)
  | [], off, ks, h, _ => by cases h; simp [KDs]
  | fd :: r, off, ks, h, hy => by
    simp only [kindsDF] at h
    split at h
    · rename_i k1 hk1
      by_cases hb : (Nat.beq fd.offset off && Nat.beq (P.cellsOf fd.type) k1.length) = true
      · rw [hb, cond_true] at h
        simp only [Bool.and_eq_true] at hb
        have h1 := Nat.eq_of_beq_eq_true hb.1
        have h2 := Nat.eq_of_beq_eq_true hb.2
        split at h
        · rename_i rs hrs
          cases h
          obtain ⟨y, hy1⟩ := hy fd (.head _)
          have a1 := hf hk1 hy1
          have a2 := kindsDF_ok hf r _ rs hrs fun g hg => hy g (.tail _ hg)
          rw [h1, h2] at a1
          rw [List.length_append, List.take_add, List.drop_drop]
          exact a1.app a2
        · cases h
      · simp only [Bool.not_eq_true] at hb
        rw [hb, cond_false] at h
        cases h
    · cases h
theorem kindsD_ok : ∀ (m : Nat) {n : Nat} {t : TypeId} {ks : List KD} {cs : List Value} {y : DataW H × List MemPlace}, kindsD P m t = some ks → DataW.trod enc P W 0 (fun _ => true) true n t cs = some y → KDs W ks cs
  | 0, _, _, _, _, _, h, _ => by cases h
  | m + 1, n, t, ks, cs, y, h, hy => by
    simp only [kindsD] at h
    split at h
    · rename_i k ht
      cases h
      obtain ⟨x, rfl, _, hw⟩ := DataW.trod_int ht hy
      exact ⟨⟨x, rfl, hw⟩, trivial⟩
    · rename_i ht
      cases h
      obtain ⟨b, rfl, _⟩ := DataW.trod_bool ht hy
      exact ⟨⟨b, rfl⟩, trivial⟩
    · rename_i ht
      cases h
      obtain ⟨s, rfl, _, hs⟩ := DataW.trod_string ht hy
      exact ⟨⟨s, rfl, hs⟩, trivial⟩
    · rename_i e ht
      cases hk : kindE P e with
      | none => rw [hk] at h; cases h
      | some k =>
        rw [hk] at h
        cases h
        exact kindE_ok ht hk hy
    · rename_i fs ht
      split at h
      · rename_i k1 hk1
        by_cases hb : Nat.beq (P.cellsOf t) k1.length = true
        · rw [hb, cond_true] at h
          cases h
          obtain ⟨xs, n', rfl, _, hl, hlen, hf⟩ := DataW.trod_struct ht hy
          have := kindsDF_ok (cs := cs) (fun h1 h2 => kindsD_ok m h1 h2) fs 0 _ hk1 (fun fd hfd => by
            obtain ⟨i, hi, rfl⟩ := List.getElem_of_mem hfd
            have h3 := hf i fs[i] (by simp [hi])
            have hi' : i < xs.length := by rw [hlen]; simpa using hi
            rw [List.getElem?_eq_getElem hi'] at h3
            exact ⟨_, h3⟩)
          rw [List.drop_zero, ← Nat.eq_of_beq_eq_true hb, ← hl, List.take_length] at this
          exact this
        · simp only [Bool.not_eq_true] at hb
          rw [hb, cond_false] at h
          cases h
      · cases h
    · cases h

/-- A slice, of elements that may hold slices, that came in. -/
theorem arg_rowsD {α : Type} {r : Reach} {b0 : Nat} {t e : TypeId} {ks : List KD} {c : α → List Value} {p : α → Prop} {v : Value} {d : DataW H} {q : List MemPlace} (ht : P.underlying t = some (.slice e)) (hk : kindsD P 9 e = some ks) (hs : Nat.blt 0 (P.cellsOf e) = true)
    (hp : ∀ cs, KDs W ks cs → ∃ x, cs = c x ∧ p x) (hv : Value.okWide P W r b0 t v) (h : DataW.Trod enc P W 0 (fun _ => true) true t v d q) :
    ∃ (a : Option Addr) (cp : Nat) (l : List α), v = .slice a l.length cp ∧ l.length ≤ cp ∧ l.length ≤ maxLen ∧ (∀ x ∈ l, p x) ∧ Els W c a l := by
  have hs : 0 < P.cellsOf e := Nat.lt_of_lt_of_le Nat.zero_lt_one (Nat.le_of_ble_eq_true hs)
  obtain ⟨a, len, cap, rfl⟩ := okWide_slice ht hv
  obtain ⟨fuel, hf⟩ := h
  obtain ⟨a', cp, l, h1, h2, h3, h4, h5⟩ := trod_elems (c := c) (p := p) ht hs (fun hy => hp _ (kindsD_ok 9 hk hy)) hf
  simp [Value.cells] at h1
  obtain ⟨rfl, rfl, rfl⟩ := h1
  exact ⟨_, _, l, rfl, h2, h3, h4, h5⟩
/-- A struct, that may hold slices, that came in by value. -/
theorem arg_flatD {α : Type} {r : Reach} {b0 : Nat} {t : TypeId} {fs : Array Field} {ks : List KD} {c : α → List Value} {p : α → Prop} {v : Value} {d : DataW H} {q : List MemPlace} (ht : P.underlying t = some (.struct fs)) (hk : kindsD P 9 t = some ks)
    (hp : ∀ cs, KDs W ks cs → ∃ x, cs = c x ∧ p x) (hv : Value.okWide P W r b0 t v) (h : DataW.Trod enc P W 0 (fun _ => true) true t v d q) :
    ∃ x : α, v = .agg (c x).toArray ∧ p x := by
  obtain ⟨⟨cs⟩, rfl, _⟩ := okWide_struct ht hv
  obtain ⟨fuel, hf⟩ := h
  have h1 := kindsD_ok 9 hk hf
  simp only [Value.cells] at h1
  obtain ⟨x, hx, hpx⟩ := hp _ h1
  exact ⟨x, by rw [← hx], hpx⟩
end

section
variable {Γ : Ctx} {e : Env} {H : Heap} {d : Option Nat} {ty : TypeId} {pos : String} {af : Array Edge} {g : Option (Nat × Bool)}
/-- append(nil, make([]T, n)..). -/
theorem x_append0M {t tn : TypeId} {x y : Operand} {T s by_ : Nat} {n : Nat} {kk : IntKind} {ts : Array TypeId}
    (hx : vnf (ev e x) = some (.slice none 0 0)) (hy : vnf (ev e y) = some (.int kk n)) (hts : ts = #[t, tn]) (htn : isInt Γ.P tn = true) (hp : appP Γ.P t = some (T, s, by_))
    (h0 : 0 < n) (hlen : n ≤ 1000000) (hb : by_ ≤ 1000) :
    Op1 Γ ⟨d, .call ⟨.builtin .append, #[x, y], ts⟩, ty, pos, af, g⟩ e H (fun v' H' => ∃ b' cap sp, v' = .slice (some ⟨b', 0, none⟩) n cap ∧ H' = (b', blk sp T) :: H ∧ sp.length = cap * s ∧ n ≤ cap ∧ cap ≤ maxLen) := by
  intro w hw
  subst hts
  have hx := vnf_eq hx
  have hy := vnf_eq hy
  unfold isInt at htn
  split at htn <;> try cases htn
  rename_i kn hkn
  unfold appP at hp
  split at hp <;> try cases hp
  rename_i el hu
  split at hp <;> try cases hp
  rename_i ti hti
  split at hp <;> try cases hp
  rename_i z hz
  split at hp <;> try cases hp
  rename_i hzs
  obtain ⟨hz1, hz2⟩ := hzs
  have h48 : n * ti.bytes ≤ 281474976710656 := by
    have : n * ti.bytes ≤ 1000000 * 1000 := Nat.mul_le_mul hlen hb
    omega
  have key := Lib.run_append_nil_zeros (P := Γ.P) w t tn ty T ti z kk kn hu hkn hti hz n h0 hz2 (by omega) h48
  have hge := grownCap_ge w n 0 T
  have hcm : grownCap w n 0 T ≤ maxLen := grownCap_le_maxLen w n 0 T (by unfold maxLen; omega)
  generalize hZ : (Builtin.zeroCells z.cells n ++ Builtin.zeroCells z.cells (grownCap w n 0 T - n)) = Z at key
  have hzl : Z.size = grownCap w n 0 T * ti.size := by
    rw [← hZ]
    simp only [Array.size_append, size_zeroCells, hz1, ← Nat.add_mul]
    congr 1
    omega
  obtain ⟨Z⟩ := Z
  refine opW_run (v := .slice (some ⟨w.heap.size, 0, none⟩) n (grownCap w n 0 T)) (w' := w.drew.alloc (blk Z T)) ?_ ⟨_, hw.drew.alloc _, w.heap.size, grownCap w n 0 T, Z, rfl, rfl, by simpa using hzl, hge, hcm⟩
  simp only [execOp, resolve, Sem.run_bind, Sem.run_pure, Result.andThen_ok, invoke, builtin, List.map_toArray, List.map_cons, List.map_nil, hx, hy, key]
end
end Go.VV
