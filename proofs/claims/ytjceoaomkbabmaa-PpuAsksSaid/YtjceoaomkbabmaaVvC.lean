/- Regions that draw their order, over a symbolic state: one walk of a plan serves every order. Plain lemmas; no program. -/
import Derived.Test.YtjceoaomkbabmaaVvB
namespace Go.VV
open Go Go.RowKit

section
variable {P : Program} {ops : Array Oper} {R : Exit → Act → World → Prop} {md : Region.Mode} {S : World → Prop} {need : Nat → Bool}

/-- Whatever order is picked from here on; an operation of 'need' keeps 'S'. -/
def anyN (P : Program) (md : Region.Mode) (ops : Array Oper) (R : Exit → Act → World → Prop) (S : World → Prop) (need : Nat → Bool) : Nat → Array Bool → Act → World → Prop
  | 0, listed, a, w => Region.ready md ops listed = [] ∧ R .normal a w
  | fuel + 1, listed, a, w =>
    (Region.ready md ops listed = [] → R .normal a w) ∧
    ∀ i ∈ Region.ready md ops listed, wpOp P ops R i (fun a' w' => (need i = true → S w → S w') ∧ anyN P md ops R S need fuel (listed.setIfInBounds i true) a' w') a w

theorem any_of_N : ∀ (fuel : Nat) (listed : Array Bool) (a : Act) (w : World), anyN P md ops R S need fuel listed a w → wpAny P md ops R fuel listed a w
  | 0, _, _, _, h => h
  | fuel + 1, _, _, _, h => ⟨h.1, fun i hi => wpOp_mono (fun a' w' h' => any_of_N fuel _ a' w' h'.2) (h.2 i hi)⟩

/-- Whatever has come up has all ahead of it come up. -/
def Closed (md : Region.Mode) (ops : Array Oper) (listed : Array Bool) : Prop :=
  ∀ j oj, ops[j]? = some oj → listed.getD j false = true → ∀ e ∈ oj.after, Region.binds md e = true → listed.getD e.on false = true

theorem Closed.add {listed : Array Bool} (h : Closed md ops listed) {i : Nat} (hi : i ∈ Region.ready md ops listed) : Closed md ops (listed.setIfInBounds i true) := by
  intro j oj hj hl e he hb
  by_cases hji : j = i
  · subst hji
    obtain ⟨_, oj', hoj', hall⟩ := mem_ready.1 hi
    rw [hj] at hoj'
    cases hoj'
    exact getD_set_true (hall e he hb)
  · rw [getD_set_ne false (Ne.symm hji)] at hl
    exact getD_set_true (h j oj hj hl e he hb)

theorem Closed.start (n : Nat) : Closed md ops (Array.replicate n false) := by
  intro j oj _ hl
  exfalso
  rw [Array.getD_eq_getD_getElem?, Array.getElem?_replicate] at hl
  split at hl <;> simp at hl

/-- j waits for i, step by step. -/
def waits (md : Region.Mode) (ops : Array Oper) (i : Nat) : Nat → Nat → Bool
  | 0, _ => false
  | fuel + 1, j => match ops[j]? with
    | some oj => oj.after.any fun e => Region.binds md e && (e.on == i || waits md ops i fuel e.on)
    | none => false

theorem waits_listed {listed : Array Bool} {i : Nat} (hc : Closed md ops listed) : ∀ (fuel j : Nat), waits md ops i fuel j = true → (∀ oj, ops[j]? = some oj → ∀ e ∈ oj.after, Region.binds md e = true → listed.getD e.on false = true) → listed.getD i false = true
  | 0, _, h, _ => by simp [waits] at h
  | fuel + 1, j, h, hd => by
    simp only [waits] at h
    split at h
    · rename_i oj hoj
      obtain ⟨e, he, hb⟩ := Array.any_eq_true'.1 h
      simp only [Bool.and_eq_true, Bool.or_eq_true, beq_iff_eq] at hb
      have h1 := hd oj hoj e he hb.1
      rcases hb.2 with h2 | h2
      · rw [← h2]; exact h1
      · exact waits_listed hc fuel e.on h2 (fun o' ho' => hc e.on o' ho' h1)
    · cases h

/-- An operation that yields its value in every world may be taken first; one that does so in every world of S ('ld'), if each of those that might come before it keeps S. -/
theorem anyN_first (ld : Bool) {i : Nat} {oi : Oper} {v : Value} (hi : ops[i]? = some oi) (hsel : ∀ (j : Nat) (o : Oper) cs b, ops[j]? = some o → o.op ≠ .select cs b)
    (hR : ∀ c a w, R (.panic c) (a.put oi.dst v) w → R (.panic c) a w) :
    ∀ (fuel : Nat) (listed : Array Bool) (a : Act) (w : World),
      (∀ j oj, ops[j]? = some oj → j ≠ i → listed.getD j true = false → (∀ e ∈ oj.after, Region.binds md e = true → e.on ≠ i) → oi.apart ops oj = true) →
      (ld = true → ∀ j oj, ops[j]? = some oj → j ≠ i → listed.getD j true = false → waits md ops i ops.size j = false → need j = true) → Closed md ops listed →
      i ∈ Region.ready md ops listed → YieldsIf P ops (fun w => ld = true → S w) oi v a → (ld = true → S w) →
      anyN P md ops R S need fuel (listed.setIfInBounds i true) (a.put oi.dst v) w → anyN P md ops R S need (fuel + 1) listed a w := by
  intro fuel
  induction fuel with
  | zero =>
    intro listed a w _ _ _ hr hy hS H
    refine ⟨fun h => (by rw [h] at hr; cases hr), fun j hj => ?_⟩
    by_cases hji : j = i
    · subst hji; exact hy.wpOp hi hS ⟨fun _ h => h, H⟩
    · have := ready_mono hj hji
      rw [H.1] at this
      cases this
  | succ fuel ih =>
    intro listed a w hfree hkeep hcl hr hy hS H
    refine ⟨fun h => (by rw [h] at hr; cases hr), fun j hj => ?_⟩
    by_cases hji : j = i
    · subst hji; exact hy.wpOp hi hS ⟨fun _ h => h, H⟩
    · have h1 := H.2 j (ready_mono hj hji)
      obtain ⟨hjun, oj, hoj, hall⟩ := mem_ready.1 hj
      have hnot : ∀ e ∈ oj.after, Region.binds md e = true → e.on ≠ i := fun e he hb heq => by
        have h1 := hall e he hb
        have h0 := (mem_ready.1 hr).1
        rw [heq] at h1
        rcases Nat.lt_or_ge i listed.size with h' | h'
        · simp [h'] at h0 h1; rw [h0] at h1; cases h1
        · simp [Array.getElem?_eq_none h'] at h1
      have hap := hfree j oj hoj hji hjun hnot
      have hneed : ld = true → need j = true := fun hld => by
        refine hkeep hld j oj hoj hji hjun ?_
        cases hx : waits md ops i ops.size j
        · rfl
        · exfalso
          have h1 := waits_listed hcl ops.size j hx (fun o' ho' => by rw [hoj] at ho'; cases ho'; exact hall)
          have h0 := (mem_ready.1 hr).1
          rcases Nat.lt_or_ge i listed.size with h' | h'
          · simp [h'] at h0 h1; rw [h0] at h1; cases h1
          · simp [Array.getElem?_eq_none h'] at h1
      have h2 := wpOp_putIf hoj hap (fun cs b => hsel i oi cs b hi) (fun cs b => hsel j oj cs b hoj) hR hy h1
      have hfree' : ∀ k ok, ops[k]? = some ok → k ≠ i → (listed.setIfInBounds j true).getD k true = false →
          (∀ e ∈ ok.after, Region.binds md e = true → e.on ≠ i) → oi.apart ops ok = true := fun k ok hk hki hun hno => by
        refine hfree k ok hk hki ?_ hno
        by_cases hjk : j = k
        · subst hjk; exact hjun
        · rw [getD_set_ne true hjk] at hun; exact hun
      have hkeep' : ld = true → ∀ k ok, ops[k]? = some ok → k ≠ i → (listed.setIfInBounds j true).getD k true = false → waits md ops i ops.size k = false → need k = true := fun hld k ok hk hki hun hno => by
        refine hkeep hld k ok hk hki ?_ hno
        by_cases hjk : j = k
        · subst hjk; exact hjun
        · rw [getD_set_ne true hjk] at hun; exact hun
      refine wpOp_mono (fun a' w' h3 => ⟨h3.2.1, ih (listed.setIfInBounds j true) a' w' hfree' hkeep' (hcl.add hj) (ready_mono hr (Ne.symm hji)) h3.1 (fun hld => h3.2.1 (hneed hld) (hS hld)) ?_⟩) h2
      rw [Array.setIfInBounds_comm _ _ hji]
      exact h3.2.2

/-- Does it look at the heap? -/
def looks (o : Oper) : Bool := match o.op with
  | .load _ _ => true
  | _ => false
def looksAt (ops : Array Oper) (i : Nat) : Bool := match ops[i]? with
  | some o => looks o
  | none => true

/-- A plan: which operation next; 'step true': it yields its value in every world (of S, if it looks at the heap); 'fork': several may come next, each with its own plan. -/
inductive Plan where
  | done
  | step (l : Bool) (i : Nat) (r : Plan)
  | fork (i : Nat) (r o : Plan)
  | stop
def Plan.heads : Plan → List Nat
  | .fork i _ o => i :: o.heads
  | _ => []
def runPlan (P : Program) (ops : Array Oper) (R : Exit → Act → World → Prop) (S : World → Prop) (need : Nat → Bool) : Plan → Act → World → Prop
  | .done, a, w => R .normal a w
  | .step true i r, a, w => ∃ o v, ops[i]? = some o ∧ YieldsIf P ops (fun w => looks o = true → S w) o v a ∧ runPlan P ops R S need r (a.put o.dst v) w
  | .step false i r, a, w => wpOp P ops R i (fun a' w' => (need i = true → S w → S w') ∧ runPlan P ops R S need r a' w') a w
  | .fork i r o, a, w => wpOp P ops R i (fun a' w' => (need i = true → S w → S w') ∧ runPlan P ops R S need r a' w') a w ∧ runPlan P ops R S need o a w
  | .stop, _, _ => True

def keepB (md : Region.Mode) (ops : Array Oper) (need : Nat → Bool) (listed : Array Bool) (i : Nat) : Bool :=
  (List.range ops.size).all fun j => j == i || listed.getD j true || waits md ops i ops.size j || need j

def planB (md : Region.Mode) (ops : Array Oper) (need : Nat → Bool) : Plan → Nat → Bool → Array Bool → Bool → Bool
  | .done, _, top, listed, _ => top && (Region.ready md ops listed).isEmpty
  | .step true i r, fuel + 1, top, listed, s => top && (!(looksAt ops i) || (s && keepB md ops need listed i)) && (Region.ready md ops listed).contains i && Region.free md ops listed i && planB md ops need r fuel true (listed.setIfInBounds i true) s
  | .step false i r, fuel + 1, top, listed, s => top && (Region.ready md ops listed == [i]) && planB md ops need r fuel true (listed.setIfInBounds i true) (s && need i)
  | .fork i r o, fuel + 1, top, listed, s => (!top || Region.ready md ops listed == i :: o.heads) && (Region.ready md ops listed).contains i && planB md ops need r fuel true (listed.setIfInBounds i true) (s && need i) && planB md ops need o (fuel + 1) false listed s
  | .stop, _, top, _, _ => !top
  | .step _ _ _, 0, _, _, _ => false
  | .fork _ _ _, 0, _, _, _ => false

theorem keepB_spec {listed : Array Bool} {i : Nat} (h : keepB md ops need listed i = true) (j : Nat) (oj : Oper) (hj : ops[j]? = some oj) (hne : j ≠ i) (hun : listed.getD j true = false)
    (hno : waits md ops i ops.size j = false) : need j = true := by
  have hlt : j < ops.size := by
    rcases Nat.lt_or_ge j ops.size with h1 | h1
    · exact h1
    · rw [Array.getElem?_eq_none h1] at hj; cases hj
  have := List.all_eq_true.1 h j (List.mem_range.2 hlt)
  simpa only [hun, hno, Bool.or_eq_true, beq_iff_eq, hne, Bool.or_false, Bool.false_eq_true, false_or] using this

theorem any_of_plan (hs : Region.noSelect ops = true) (hR : ∀ c a w, ¬ R (.panic c) a w) : ∀ (pl : Plan) (fuel : Nat) (listed : Array Bool) (s : Bool) (a : Act) (w : World), Closed md ops listed → (s = true → S w) → runPlan P ops R S need pl a w →
    (planB md ops need pl fuel true listed s = true → anyN P md ops R S need fuel listed a w) ∧
    (planB md ops need pl (fuel + 1) false listed s = true → ∀ j ∈ pl.heads, wpOp P ops R j (fun a' w' => (need j = true → S w → S w') ∧ anyN P md ops R S need fuel (listed.setIfInBounds j true) a' w') a w) := by
  intro pl
  induction pl with
  | done =>
    intro fuel listed s a w _ _ h
    refine ⟨fun hB => ?_, fun _ j hj => by cases hj⟩
    simp only [planB, Bool.true_and, List.isEmpty_iff] at hB
    cases fuel with
    | zero => exact ⟨hB, h⟩
    | succ fuel => exact ⟨fun _ => h, fun j hj => by rw [hB] at hj; cases hj⟩
  | stop =>
    intro fuel listed s a w _ _ _
    exact ⟨fun hB => by simp [planB] at hB, fun _ j hj => by cases hj⟩
  | step l i r ih =>
    intro fuel listed s a w hcl hS h
    refine ⟨fun hB => ?_, fun _ j hj => by cases hj⟩
    cases fuel with
    | zero => simp [planB] at hB
    | succ fuel =>
      cases l with
      | true =>
        simp only [planB, Bool.true_and, Bool.and_eq_true] at hB
        obtain ⟨⟨⟨h1, h2⟩, h3⟩, h5⟩ := hB
        obtain ⟨o, v, ho, hy, hr⟩ := h
        have h4 : looks o = true → s = true ∧ keepB md ops need listed i = true := fun hx => by
          simp only [looksAt, ho, hx, Bool.not_true, Bool.false_or, Bool.and_eq_true] at h1
          exact h1
        refine anyN_first (looks o) ho (Region.noSelect_spec hs) (fun c a w hc => absurd hc (hR c _ w)) fuel listed a w (fun j oj hj hne hun hno => Region.free_spec ho h3 j oj hj hne hun hno)
          (fun hx j oj hj hne hun hno => keepB_spec (h4 hx).2 j oj hj hne hun hno) hcl (by simpa using h2) hy (fun hx => hS (h4 hx).1) ?_
        exact (ih fuel _ s _ w (hcl.add (by simpa using h2)) hS hr).1 h5
      | false =>
        simp only [planB, Bool.true_and, Bool.and_eq_true, beq_iff_eq] at hB
        obtain ⟨h1, h2⟩ := hB
        refine ⟨fun h0 => (by rw [h1] at h0; cases h0), fun j hj => ?_⟩
        rw [h1] at hj
        have : j = i := by simpa using hj
        subst this
        refine wpOp_mono (fun a' w' h3 => ⟨h3.1, (ih fuel _ (s && need j) a' w' (hcl.add (by rw [h1]; simp)) ?_ h3.2).1 h2⟩) h
        intro hx
        simp only [Bool.and_eq_true] at hx
        exact h3.1 hx.2 (hS hx.1)
  | fork i r o ih1 ih2 =>
    intro fuel listed s a w hcl hS h
    have key : ∀ fuel top, planB md ops need (.fork i r o) (fuel + 1) top listed s = true → ∀ j ∈ (Plan.fork i r o).heads, wpOp P ops R j (fun a' w' => (need j = true → S w → S w') ∧ anyN P md ops R S need fuel (listed.setIfInBounds j true) a' w') a w := by
      intro fuel top hB j hj
      simp only [planB, Bool.and_eq_true] at hB
      obtain ⟨⟨⟨_, h2⟩, h3⟩, h4⟩ := hB
      simp only [Plan.heads, List.mem_cons] at hj
      rcases hj with rfl | hj
      · refine wpOp_mono (fun a' w' h5 => ⟨h5.1, (ih1 fuel _ (s && need j) a' w' (hcl.add (by simpa using h2)) ?_ h5.2).1 h3⟩) h.1
        intro hx
        simp only [Bool.and_eq_true] at hx
        exact h5.1 hx.2 (hS hx.1)
      · exact (ih2 fuel listed s a w hcl hS h.2).2 h4 j hj
    refine ⟨fun hB => ?_, fun hB => key fuel false hB⟩
    cases fuel with
    | zero => simp [planB] at hB
    | succ fuel =>
      have hk := key fuel true hB
      simp only [planB, Bool.and_eq_true, Bool.not_true, Bool.false_or, beq_iff_eq] at hB
      have h1 := hB.1.1.1
      refine ⟨fun h0 => (by rw [h1] at h0; cases h0), fun j hj => hk j ?_⟩
      rw [h1] at hj
      exact hj

theorem wp_region_plan {id : Nat} {a : Act} {w : World} (pl : Plan) (hm : P.follows .mixedOrders = true) (hs : Region.noSelect ops = true)
    (hB : planB .any ops need pl ops.size true (Array.replicate ops.size false) true = true) (hR : ∀ c a w, ¬ R (.panic c) a w) (hS : S { w with drawn := w.drawn + 1 })
    (hd : ops.all noDefer = true) (hL : ¬ LetsOut R) {r : Option Nat} (h : runPlan P ops R S need pl a { w with drawn := w.drawn + 1 }) : (Code.region id ops true).wpIn (Fr r) 0 P R a w :=
  wpIn_region_any hm (wpAny_in hd hL _ _ _ _ (any_of_N _ _ _ _ ((any_of_plan hs hR pl _ _ true a _ (Closed.start _) (fun _ => hS) h).1 hB)))
end

def plainOps (l : Array Oper) : Bool := Region.noSelect l && l.all noDefer

/-! ### the same, over a symbolic state; 'S': what stood in the heap when the region began stands there still -/
def L2 (Γ : Ctx) (ops : List Oper) (S : World → Prop) (need : List Nat) (pl : Plan) (k : Kont) (e : Env) (H : Heap) : Prop :=
  ∀ a w, Rep Γ.n Γ.D e a → St Γ.w0 Γ.ms H w → runPlan Γ.P ops.toArray (Q Γ.n Γ.D Γ.w0 Γ.ms k) S (fun i => need.any (Nat.beq i)) pl a w

section rules
variable {Γ : Ctx} {k : Kont} {e : Env} {H : Heap} {ops : List Oper} {S : World → Prop} {need : List Nat} {pl : Plan} {i : Nat}
  {d : Option Nat} {op : Op} {t : TypeId} {pos : String} {af : Array Edge} {g : Option (Nat × Bool)}

theorem Q.noPanic {n : Nat} {D : List Deferred} {w0 : World} {ms : List Nat} {k : Kont} (c : List PanicEntry) (a : Act) (w : World) : ¬ Q n D w0 ms k (.panic c) a w :=
  fun ⟨_, _, _, _, h⟩ => h

/-- S: the entries F stand as they stood (and what was there ahead of the function, but for its own 'ms'). -/
def Stood (Γ : Ctx) (F : Heap) (w : World) : Prop := ∃ G, St Γ.w0 Γ.ms G w ∧ ∀ x ∈ F, x ∈ G

theorem c_draw {id : Nat} {l : List Oper} (F : Heap) (need : List Nat) (pl : Plan) (hm : Γ.P.follows .mixedOrders = true) (hs : plainOps l.toArray = true)
    (hB : planB .any l.toArray (fun i => need.any (Nat.beq i)) pl l.toArray.size true (Array.replicate l.toArray.size false) true = true)
    (hF : ∀ x ∈ F, x ∈ H) (h : L2 Γ l (Stood Γ F) need pl k e H) : C Γ (.region id l.toArray true) k e H :=
  fun a _ ha hw => by
    simp only [plainOps, Bool.and_eq_true] at hs
    exact wp_region_plan pl hm hs.1 hB (fun c a w => Q.noPanic c a w) ⟨H, hw.drew, hF⟩ hs.2 Q.noOut (h a _ ha hw.drew)

/-- Several may come next. -/
theorem d_fork {r o : Plan} (h1 : L2 Γ ops S need (.step false i r) k e H) (h2 : L2 Γ ops S need o k e H) : L2 Γ ops S need (.fork i r o) k e H :=
  fun a w ha hw => ⟨h1 a w ha hw, h2 a w ha hw⟩
theorem d_stop : L2 Γ ops S need .stop k e H := fun _ _ _ _ => trivial
theorem d_nil (h : k.N e H) : L2 Γ ops S need .done k e H := fun _ _ ha hw => ⟨e, H, ha, hw, h⟩

theorem d_yield {v : Value} (ho : ops[i]? = some ⟨d, op, t, pos, af, g⟩) (hg : gdB ops e ⟨d, op, t, pos, af, g⟩ = true) (hd : dstOk Γ.n d = true)
    (hl : ∀ w, (looks ⟨d, op, t, pos, af, g⟩ = true → S w) → (execOp (ev e) ⟨d, op, t, pos, af, g⟩).run Γ.P w = .ok (.value v) w)
    (h : L2 Γ ops S need pl k (e.put d v) H) : L2 Γ ops S need (.step true i pl) k e H := by
  intro a w ha hw
  refine ⟨_, v, by rw [List.getElem?_toArray]; exact ho, .inl ⟨by rw [gdB_eq ha]; exact hg, fun w hS => ?_⟩, h _ _ (ha.put hd v) hw⟩
  rw [ha.eval]; exact hl w hS

def notTuple : Value → Bool
  | .tuple _ => false
  | _ => true
theorem light_value {P : Program} {e : Env} {o : Oper} {v : Value} (h : light P e o = some v) (hv : notTuple v = true) (w : World) :
    (execOp (ev e) o).run P w = .ok (.value v) w := by
  rcases light_run h w with h1 | ⟨h1, h2⟩
  · exact h1
  · subst h2; cases hv

theorem d_light {v : Value} (ho : ops[i]? = some ⟨d, op, t, pos, af, g⟩) (hl : light Γ.P e ⟨d, op, t, pos, af, g⟩ = some v) (hv : notTuple v = true)
    (hg : gdB ops e ⟨d, op, t, pos, af, g⟩ = true) (hd : dstOk Γ.n d = true)
    (h : L2 Γ ops S need pl k (e.put d v) H) : L2 Γ ops S need (.step true i pl) k e H :=
  d_yield ho hg hd (fun w _ => light_value hl hv w) h

theorem d_bool {b : Bool} (ho : ops[i]? = some ⟨d, op, t, pos, af, g⟩) (hl : light Γ.P e ⟨d, op, t, pos, af, g⟩ = some (.bool b))
    (hg : gdB ops e ⟨d, op, t, pos, af, g⟩ = true) (hd : dstOk Γ.n d = true)
    (ht : b = true → L2 Γ ops S need pl k (e.put d (.bool true)) H) (hf : b = false → L2 Γ ops S need pl k (e.put d (.bool false)) H) : L2 Γ ops S need (.step true i pl) k e H := by
  cases b
  · exact d_light ho hl rfl hg hd (hf rfl)
  · exact d_light ho hl rfl hg hd (ht rfl)

theorem d_pass (ho : ops[i]? = some ⟨d, op, t, pos, af, g⟩) (hg : gdB ops e ⟨d, op, t, pos, af, g⟩ = false) (hd : dstOk Γ.n d = true)
    (h : L2 Γ ops S need pl k (e.put d undef) H) : L2 Γ ops S need (.step true i pl) k e H := by
  intro a w ha hw
  exact ⟨_, undef, by rw [List.getElem?_toArray]; exact ho, .inr ⟨by rw [gdB_eq ha]; exact hg, rfl⟩, h _ _ (ha.put hd _) hw⟩

/-- One that is carried out in its place. -/
theorem d_op {o : Oper} {K : Value → Heap → Prop} (ho : ops[i]? = some o) (hg : gdB ops e o = true) (hd : dstOk Γ.n o.dst = true)
    (h : ∀ w, St Γ.w0 Γ.ms H w → opW Γ.P o e w (fun v w' => ∃ H', St Γ.w0 Γ.ms H' w' ∧ K v H'))
    (hn : need.any (Nat.beq i) = true → ∀ v H' w', K v H' → St Γ.w0 Γ.ms H' w' → S w')
    (hk : ∀ v H', K v H' → L2 Γ ops S need pl k (e.put o.dst v) H') : L2 Γ ops S need (.step false i pl) k e H := by
  intro a w ha hw
  unfold runPlan wpOp
  rw [List.getElem?_toArray, ho]
  simp only
  rw [gdB_eq ha, if_pos hg]
  refine .inl (wp_of_opW ha (h w hw) ?_)
  rintro v w' ⟨H', h1, h2⟩
  exact ⟨fun hx _ => hn hx v H' w' h2 h1, hk v H' h2 _ _ (ha.put hd v) h1⟩

theorem d_passH {o : Oper} (ho : ops[i]? = some o) (hg : gdB ops e o = false) (hd : dstOk Γ.n o.dst = true)
    (h : L2 Γ ops S need pl k (e.put o.dst undef) H) : L2 Γ ops S need (.step false i pl) k e H := by
  intro a w ha hw
  unfold runPlan wpOp
  rw [List.getElem?_toArray, ho]
  simp only
  rw [gdB_eq ha, if_neg (by rw [hg]; simp)]
  exact ⟨fun _ hS => hS, h _ _ (ha.put hd _) hw⟩
end rules
end Go.VV
