/- Regions over a symbolic state: operations that only compute (run by reduction), guards, calls, and regions that draw their order. Plain lemmas; no program. -/
import Derived.Test.YtjceoaomkbabmaaVvA
namespace Go.VV
open Go Go.RowKit

/-! ### operations that only compute -/
def pureOf {α : Type} (P : Program) : Sem α → Option α
  | .pure a => some a
  | .program k => pureOf P (k P)
  | _ => none

theorem pureOf_run {α : Type} {P : Program} {s : Sem α} {a : α} (h : pureOf P s = some a) (w : World) : s.run P w = .ok a w := by
  induction s with
  | pure b => simp only [pureOf] at h; cases h; rfl
  | program k ih => simp only [pureOf] at h; simp only [Sem.run]; exact ih P h
  | _ => simp [pureOf] at h

/-- A value, written out at its head. -/
def vnf : Value → Option Value
  | .bool b => some (.bool b)
  | .int k n => some (.int k n)
  | .float k n => some (.float k n)
  | .complex k a b => some (.complex k a b)
  | .string s => some (.string s)
  | .pointer none => some (.pointer none)
  | .pointer (some ⟨b, o, s⟩) => some (.pointer (some ⟨b, o, s⟩))
  | .slice a n c => some (.slice a n c)
  | .map r => some (.map r)
  | .chan r => some (.chan r)
  | .func f a b => some (.func f a b)
  | .nilFunc => some .nilFunc
  | .iface t v => some (.iface t v)
  | .nilIface => some .nilIface
  | .agg cs => some (.agg cs)
  | .tuple vs => some (.tuple vs)

theorem vnf_eq {v u : Value} (h : vnf v = some u) : v = u := by
  cases v with
  | pointer a => cases a with
    | none => exact Option.some.inj h
    | some a => cases a; exact Option.some.inj h
  | _ => exact Option.some.inj h

def light (P : Program) (e : Env) (o : Oper) : Option Value :=
  match pureOf P (execOp (ev e) o) with
  | some (.value v) => vnf v
  | some .skip => some undef
  | _ => none

theorem light_run {P : Program} {e : Env} {o : Oper} {v : Value} (h : light P e o = some v) (w : World) :
    (execOp (ev e) o).run P w = .ok (.value v) w ∨ ((execOp (ev e) o).run P w = .ok .skip w ∧ v = undef) := by
  unfold light at h
  split at h
  · rename_i u hu
    rw [← vnf_eq h]
    exact .inl (pureOf_run hu w)
  · rename_i hu
    cases h
    exact .inr ⟨pureOf_run hu w, rfl⟩
  · cases h

/-! ### one operation -/
/-- The operation gives a value, in a world: 'K'. -/
def opW (P : Program) (o : Oper) (e : Env) (w : World) (K : Value → World → Prop) : Prop :=
  match (execOp (ev e) o).run P w with
  | .ok (.value v) w' => K v w'
  | .ok .skip w' => K undef w'
  | .ok (.enter f args) w' => Calls P f args w' (fun ex w'' => ∃ v, ex = .returned v ∧ K v w'')
  | _ => False

theorem opW_run {P : Program} {o : Oper} {e : Env} {w w' : World} {v : Value} {K : Value → World → Prop} (h : (execOp (ev e) o).run P w = .ok (.value v) w') (k : K v w') : opW P o e w K := by
  simp only [opW, h]; exact k
theorem opW_skip {P : Program} {o : Oper} {e : Env} {w w' : World} {K : Value → World → Prop} (h : (execOp (ev e) o).run P w = .ok .skip w') (k : K undef w') : opW P o e w K := by
  simp only [opW, h]; exact k
theorem opW_enter {P : Program} {o : Oper} {e : Env} {w w' : World} {f : FuncId} {args : Array Value} {K : Value → World → Prop} (h : (execOp (ev e) o).run P w = .ok (.enter f args) w')
    (k : Calls P f args w' (fun ex w'' => ∃ v, ex = .returned v ∧ K v w'')) : opW P o e w K := by
  simp only [opW, h]; exact k
theorem opW_light {P : Program} {o : Oper} {e : Env} {w : World} {v : Value} {K : Value → World → Prop} (h : light P e o = some v) (k : K v w) : opW P o e w K := by
  rcases light_run h w with h1 | ⟨h1, h2⟩
  · exact opW_run h1 k
  · subst h2; exact opW_skip h1 k
theorem opW_mono {P : Program} {o : Oper} {e : Env} {w : World} {K K' : Value → World → Prop} (h : opW P o e w K) (hk : ∀ v w', K v w' → K' v w') : opW P o e w K' := by
  unfold opW at *
  split at h
  · exact hk _ _ h
  · exact hk _ _ h
  · exact h.mono fun ex w'' ⟨v, h1, h2⟩ => ⟨v, h1, hk _ _ h2⟩
  · exact h.elim

theorem opW_noDefer {P : Program} {o : Oper} {e : Env} {w : World} {K : Value → World → Prop} (h : opW P o e w K) (c : Call) : o.op ≠ .defer c := by
  intro ho
  have h1 : execOp (ev e) o = (do pure (.defer (← resolve (ev e) c o.type))) := by simp only [execOp, ho]
  unfold opW at h
  rw [h1, Sem.run_bind] at h
  cases hr : (resolve (ev e) c o.type).run P w with
  | ok d w' => rw [hr] at h; exact h.elim
  | halt x w' => rw [hr] at h; exact h.elim

theorem calls_in {r : Option Nat} {n : Nat} {P : Program} {f : FuncId} {args : Array Value} {w : World} {R : Ending → World → Prop} (h : Calls P f args w R) : CallsIn (Fr r) n P f args w R :=
  (callsIn_wide (n := n)).2 h

theorem wpIn_of_opW {P : Program} {r : Option Nat} {n : Nat} {D : List Deferred} {o : Oper} {e : Env} {a : Act} {w : World} {K : Value → World → Prop} {K' : Act → World → Prop} {R : Exit → Act → World → Prop}
    (ha : Rep n D e a) (h : opW P o e w K) (hk : ∀ v w', K v w' → K' (a.put o.dst v) w') : o.wpIn (Fr r) 0 P a w K' R := by
  refine ⟨fun _ _ => trivial, ?_⟩
  rw [Oper.semAt_eq _ _ _ (fun c => opW_noDefer h c), ha.eval]
  unfold opW at h
  split at h
  · rename_i v w' hr; rw [hr]; exact hk _ _ h
  · rename_i w' hr; rw [hr]; exact hk _ _ h
  · rename_i f args w' hr
    rw [hr]
    refine ⟨fun h => (by cases h), calls_in (h.mono ?_)⟩
    rintro ex w'' ⟨v, rfl, hv⟩
    exact hk _ _ hv
  · exact h.elim

/-- Out of the walk without a fence into the one in a round. -/
theorem Oper.wp_in {P : Program} {r : Option Nat} {o : Oper} {a : Act} {w : World} {K : Act → World → Prop} {R : Exit → Act → World → Prop} (ho : ∀ c, o.op ≠ .defer c)
    (h : o.wp P a w K R) : o.wpIn (Fr r) 0 P a w K R := by
  refine ⟨fun _ _ => trivial, ?_⟩
  rw [Oper.semAt_eq _ _ _ ho]
  unfold Oper.wp at h
  generalize (execOp a.eval o).run P w = q at h ⊢
  cases q with
  | ok x w' =>
    cases x <;> simp only [Oper.upon] at h <;>
      first
        | exact h
        | exact ⟨fun h => (by cases h), calls_in h⟩
        | exact h.elim
        | (refine ⟨fun h => (by cases h), fun c cs _ => ?_⟩
           obtain ⟨v, w2, h1, h2⟩ := h c cs
           exact ⟨v, w2, h1, stepsIn_wide.2 h2⟩)
  | halt x w' => cases x <;> simp only [Oper.upon] at h <;> first | exact h | exact h.elim

def noDefer (o : Oper) : Bool := match o.op with
  | .defer _ => false
  | _ => true
theorem noDefer_spec {o : Oper} (h : noDefer o = true) (c : Call) : o.op ≠ .defer c := by
  intro ho; simp only [noDefer, ho] at h; cases h

theorem wpOp_in {P : Program} {r : Option Nat} {ops : Array Oper} {i : Nat} {a : Act} {w : World} {K : Act → World → Prop} {R : Exit → Act → World → Prop}
    (hd : ops.all noDefer = true) (hL : ¬ LetsOut R) (h : wpOp P ops R i K a w) : wpOpIn (Fr r) 0 P ops R i K a w := by
  unfold wpOp at h
  unfold wpOpIn
  cases ho : ops[i]? with
  | none => rw [ho] at h; exact h
  | some o =>
    rw [ho] at h
    simp only at h ⊢
    have h1 : noDefer o = true := Array.all_eq_true'.1 hd o (Array.mem_of_getElem? ho)
    split
    · rename_i hw
      rw [if_pos hw] at h
      rcases h with h | h
      · exact Oper.wp_in (noDefer_spec h1) h
      · exact absurd h.2 hL
    · rename_i hw
      rw [if_neg hw] at h
      exact ⟨fun _ _ => trivial, h⟩

theorem wpAny_in {P : Program} {r : Option Nat} {md : Region.Mode} {ops : Array Oper} {R : Exit → Act → World → Prop} (hd : ops.all noDefer = true) (hL : ¬ LetsOut R) :
    ∀ (fuel : Nat) (listed : Array Bool) (a : Act) (w : World), wpAny P md ops R fuel listed a w → wpAnyIn (Fr r) 0 P md ops R fuel listed a w
  | 0, _, _, _, h => h
  | fuel + 1, _, _, _, h => ⟨h.1, fun i hi => wpOpIn_mono (fun a' w' h' => wpAny_in hd hL fuel _ a' w' h') (wpOp_in hd hL (h.2 i hi))⟩

theorem Q.noOut {n : Nat} {D : List Deferred} {w0 : World} {ms : List Nat} {k : Kont} : ¬ LetsOut (Q n D w0 ms k) := by
  rintro ⟨_, _, _, _, _, _, h⟩
  exact h

theorem wp_of_opW {P : Program} {n : Nat} {D : List Deferred} {o : Oper} {e : Env} {a : Act} {w : World} {K : Value → World → Prop} {K' : Act → World → Prop} {R : Exit → Act → World → Prop}
    (ha : Rep n D e a) (h : opW P o e w K) (hk : ∀ v w', K v w' → K' (a.put o.dst v) w') : o.wp P a w K' R := by
  unfold Oper.wp
  rw [ha.eval]
  unfold opW at h
  split at h
  · rename_i v w' hr; rw [hr]; exact hk _ _ h
  · rename_i w' hr; rw [hr]; exact hk _ _ h
  · rename_i f args w' hr
    rw [hr]
    refine h.mono ?_
    rintro ex w'' ⟨v, rfl, hv⟩
    exact hk _ _ hv
  · exact h.elim

/-! ### guards -/
def gdB (ops : List Oper) (e : Env) (o : Oper) : Bool :=
  match o.guard with
  | none => true
  | some (j, want) => match (ops[j]?).bind (·.dst) with
    | some d => match e d with
      | .bool b => b == want
      | _ => false
    | none => false

theorem gdB_eq {n : Nat} {D : List Deferred} {ops : List Oper} {e : Env} {a : Act} {o : Oper} (ha : Rep n D e a) : Region.wanted o (yielded ops.toArray a.tmps) = gdB ops e o := by
  unfold Region.wanted gdB yielded
  cases hg : o.guard with
  | none => rfl
  | some p =>
    obtain ⟨j, want⟩ := p
    simp only [List.getElem?_toArray]
    cases hd : (ops[j]?).bind (·.dst) with
    | none => simp
    | some d =>
      simp only [Option.bind_some]
      have hl : e d = a.tmps.getD d undef := by rw [ha.look]
      rw [hl]
      rw [Array.getD_eq_getD_getElem?]
      cases hx : a.tmps[d]? with
      | none => simp [undef]
      | some v =>
        simp only [Option.getD_some]
        cases v <;> simp

/-! ### a region in the order of the text -/
def L1 (Γ : Ctx) (ops l : List Oper) (k : Kont) (e : Env) (H : Heap) : Prop :=
  ∀ a w, Rep Γ.n Γ.D e a → St Γ.w0 Γ.ms H w → wpListIn (Fr Γ.r) 0 Γ.P ops.toArray (Q Γ.n Γ.D Γ.w0 Γ.ms k) l a w

section rules
variable {Γ : Ctx} {k : Kont} {e : Env} {H : Heap} {ops rest : List Oper} {o : Oper}

theorem c_region {id : Nat} {l : List Oper} (h : L1 Γ l l k e H) : C Γ (.region id l.toArray false) k e H :=
  fun a w ha hw => wpIn_region_lit (h a w ha hw)

theorem l_nil (h : k.N e H) : L1 Γ ops [] k e H := fun _ _ ha hw => wpListIn_nil ⟨e, H, ha, hw, h⟩

theorem l_op {K : Value → Heap → Prop} (hg : gdB ops e o = true) (hd : dstOk Γ.n o.dst = true)
    (h : ∀ w, St Γ.w0 Γ.ms H w → opW Γ.P o e w (fun v w' => ∃ H', St Γ.w0 Γ.ms H' w' ∧ K v H'))
    (hk : ∀ v H', K v H' → L1 Γ ops rest k (e.put o.dst v) H') : L1 Γ ops (o :: rest) k e H := by
  intro a w ha hw
  unfold wpListIn
  rw [gdB_eq ha, if_pos hg]
  exact (wpIn_of_opW ha (h w hw) fun v w' ⟨H', h1, h2⟩ => hk v H' h2 _ _ (ha.put hd v) h1)

theorem l_light {v : Value} (hl : light Γ.P e o = some v) (hg : gdB ops e o = true) (hd : dstOk Γ.n o.dst = true)
    (h : L1 Γ ops rest k (e.put o.dst v) H) : L1 Γ ops (o :: rest) k e H :=
  l_op (K := fun u H' => u = v ∧ H' = H) hg hd (fun _ hw => opW_light hl ⟨H, hw, rfl, rfl⟩) (by rintro _ _ ⟨rfl, rfl⟩; exact h)

/-- A test: from here on it is decided. -/
theorem l_bool {b : Bool} (hl : light Γ.P e o = some (.bool b)) (hg : gdB ops e o = true) (hd : dstOk Γ.n o.dst = true)
    (ht : b = true → L1 Γ ops rest k (e.put o.dst (.bool true)) H) (hf : b = false → L1 Γ ops rest k (e.put o.dst (.bool false)) H) : L1 Γ ops (o :: rest) k e H := by
  cases b
  · exact l_light hl hg hd (hf rfl)
  · exact l_light hl hg hd (ht rfl)

theorem l_pass (hg : gdB ops e o = false) (hd : dstOk Γ.n o.dst = true)
    (h : L1 Γ ops rest k (e.put o.dst undef) H) : L1 Γ ops (o :: rest) k e H := by
  intro a w ha hw
  unfold wpListIn
  rw [gdB_eq ha, if_neg (by rw [hg]; simp)]
  exact ⟨fun _ _ => trivial, h _ _ (ha.put hd _) hw⟩

/-- Behind the operation only the slots 'M' have turned: 'vs'. -/
theorem l_mix (M : List Nat) (vs : List (Nat × Value)) (hs : Sits e vs) {e0 : Env} (ha : Agree M e e0)
    (h : ∀ x, L1 Γ ops rest k (mix M vs x e0) H) : L1 Γ ops rest k e H := by
  rw [eq_mix hs ha]; exact h e
end rules

/-! ### operands in a row -/
def evs (e : Env) : List Operand → Option (List Value)
  | [] => some []
  | x :: r => match vnf (ev e x), evs e r with
    | some v, some vs => some (v :: vs)
    | _, _ => none
theorem evs_eq {e : Env} : ∀ {l : List Operand} {vs : List Value}, evs e l = some vs → l.map (ev e) = vs
  | [], _, h => by cases h; rfl
  | x :: r, vs, h => by
    simp only [evs] at h
    split at h
    · rename_i v us h1 h2
      cases h
      simp only [List.map_cons, vnf_eq h1, evs_eq h2]
    · cases h

/-! ### calls -/
def callable (P : Program) (f : Nat) : Bool :=
  match P.funcs[f]? with
  | some fn => !(fn.name == "runtime.NumGoroutine") && !fn.body.isNone
  | none => false

theorem run_call {P : Program} {e : Env} {f : Nat} {l : List Operand} {ts : Array TypeId} {d : Option Nat} {t : TypeId} {pos : String} {af : Array Edge} {g : Option (Nat × Bool)}
    (hc : callable P f = true) (w : World) :
    (execOp (ev e) ⟨d, .call ⟨.value (.func f), l.toArray, ts⟩, t, pos, af, g⟩).run P w = .ok (.enter f (l.map (ev e)).toArray) w := by
  unfold callable at hc
  split at hc
  · rename_i fn hf
    simp only [Bool.and_eq_true, Bool.not_eq_true'] at hc
    obtain ⟨h1, h2⟩ := hc
    have hs : (program : Sem Program) = .program .pure := rfl
    have h3 : ¬ fn.name = "runtime.NumGoroutine" := by simpa using h1
    have h4 : ¬ fn.body = none := by
      intro hx; rw [hx] at h2; cases h2
    simp [execOp, resolve, Deferred.ofValue, ev, invoke, callFunc, bind, Sem.bind, Sem.run, hf, h3, h4, pure, hs]
  · cases hc

/-- What a call of 'f' comes to: it returns a value, and leaves a heap. -/
def Does (P : Program) (f : Nat) (args : List Value) (w : World) (ms : List Nat) (R : Value → Heap → Prop) : Prop :=
  Calls P f args.toArray w (fun ex w' => ∃ v H, ex = .returned v ∧ St w ms H w' ∧ R v H)

theorem Does.mono {P : Program} {f : Nat} {args : List Value} {w : World} {ms : List Nat} {R R' : Value → Heap → Prop} (h : Does P f args w ms R) (hr : ∀ v H, R v H → R' v H) : Does P f args w ms R' :=
  Calls.mono h fun _ _ ⟨v, H, h1, h2, h3⟩ => ⟨v, H, h1, h2, hr _ _ h3⟩

section rules
variable {Γ : Ctx} {k : Kont} {e : Env} {ops rest : List Oper}
  {d : Option Nat} {t : TypeId} {pos : String} {af : Array Edge} {g : Option (Nat × Bool)} {f : Nat} {l : List Operand} {ts : Array TypeId}

theorem opW_call {F G : Heap} {vs : List Value} {w : World} (ms2 : List Nat) (hc : callable Γ.P f = true) (hv : evs e l = some vs) {R : Value → Heap → Prop}
    (hw : St Γ.w0 Γ.ms (F ++ G) w) (hms : ∀ b ∈ ms2, ∃ o, (b, o) ∈ F) (hf : Does Γ.P f vs w ms2 R) {K : Value → World → Prop}
    (hk : ∀ v H' w', R v H' → St w ms2 H' w' → St Γ.w0 Γ.ms (H' ++ G) w' → K v w') :
    opW Γ.P ⟨d, .call ⟨.value (.func f), l.toArray, ts⟩, t, pos, af, g⟩ e w K := by
  refine opW_enter (run_call hc w) ?_
  rw [evs_eq hv]
  refine Calls.mono hf ?_
  rintro ex w' ⟨v, H', rfl, h1, h2⟩
  exact ⟨v, rfl, hk v H' w' h2 h1 (hw.call hms h1)⟩

/-- A call that turns nothing that there was. -/
theorem l_call {H : Heap} {vs : List Value} (hc : callable Γ.P f = true) (hv : evs e l = some vs)
    (hg : gdB ops e ⟨d, .call ⟨.value (.func f), l.toArray, ts⟩, t, pos, af, g⟩ = true) (hd : dstOk Γ.n d = true) {R : Value → Heap → Prop}
    (hf : ∀ w, St Γ.w0 Γ.ms H w → Does Γ.P f vs w [] R)
    (hk : ∀ v H', R v H' → L1 Γ ops rest k (e.put d v) (H' ++ H)) :
    L1 Γ ops (⟨d, .call ⟨.value (.func f), l.toArray, ts⟩, t, pos, af, g⟩ :: rest) k e H :=
  l_op (K := fun v H2 => ∃ H', R v H' ∧ H2 = H' ++ H) hg hd
    (fun w hw => opW_call (F := []) (G := H) [] hc hv hw (by simp) (hf w hw) fun v H' w' h1 _ h2 => ⟨_, h2, H', h1, rfl⟩)
    (by rintro v _ ⟨H', h1, rfl⟩; exact hk v H' h1)

/-- A call that turns the blocks 'ms2', which stand among the entries 'F'. -/
theorem l_callF {F G : Heap} {vs : List Value} (ms2 : List Nat) (hc : callable Γ.P f = true) (hv : evs e l = some vs)
    (hg : gdB ops e ⟨d, .call ⟨.value (.func f), l.toArray, ts⟩, t, pos, af, g⟩ = true) (hd : dstOk Γ.n d = true) {R : Value → Heap → Prop}
    (hms : ∀ b ∈ ms2, ∃ o, (b, o) ∈ F)
    (hf : ∀ w, St Γ.w0 Γ.ms (F ++ G) w → Does Γ.P f vs w ms2 R)
    (hk : ∀ v H', R v H' → L1 Γ ops rest k (e.put d v) (H' ++ G)) :
    L1 Γ ops (⟨d, .call ⟨.value (.func f), l.toArray, ts⟩, t, pos, af, g⟩ :: rest) k e (F ++ G) :=
  l_op (K := fun v H2 => ∃ H', R v H' ∧ H2 = H' ++ G) hg hd
    (fun w hw => opW_call (F := F) (G := G) ms2 hc hv hw hms (hf w hw) fun v H' w' h1 _ h2 => ⟨_, h2, H', h1, rfl⟩)
    (by rintro v _ ⟨H', h1, rfl⟩; exact hk v H' h1)
end rules

/-! ### a function's body -/
def init (args : List Value) : Env := fun t => args.getD t undef

/-- The results, out of the frame. -/
def resOf (rs : List ResultVar) (e : Env) : Sem Value := do
  let vs ← rs.toArray.mapM fun
    | .tmp t => pure (e t)
    | .cell a t => do loadVar t (← asAddr (e a))
  pure (if h : vs.size = 1 then vs[0] else .tuple vs)

def Rets (P : Program) (rs : List ResultVar) (e : Env) (w : World) (v : Value) : Prop := (resOf rs e).run P w = .ok v w

theorem rets_one {P : Program} {t : Nat} {e : Env} {w : World} {v : Value} (h : e t = v) : Rets P [.tmp t] e w v := by
  simp [Rets, resOf, h, go_sem]
theorem rets_none {P : Program} {e : Env} {w : World} : Rets P [] e w (.tuple #[]) := by
  simp [Rets, resOf, go_sem]
theorem rets_two {P : Program} {t u : Nat} {e : Env} {w : World} {v1 v2 : Value} (h1 : e t = v1) (h2 : e u = v2) : Rets P [.tmp t, .tmp u] e w (.tuple #[v1, v2]) := by
  simp [Rets, resOf, h1, h2, go_sem]
theorem rets_three {P : Program} {t u s : Nat} {e : Env} {w : World} {v1 v2 v3 : Value} (h1 : e t = v1) (h2 : e u = v2) (h3 : e s = v3) : Rets P [.tmp t, .tmp u, .tmp s] e w (.tuple #[v1, v2, v3]) := by
  simp [Rets, resOf, h1, h2, h3, go_sem]

/-- The end of a body: what it returns, and the heap that it leaves. -/
def Ends (Γ : Ctx) (rs : List ResultVar) (R : Value → Heap → Prop) (e : Env) (H : Heap) : Prop :=
  ∀ w, St Γ.w0 Γ.ms H w → ∃ v H', Rets Γ.P rs e w v ∧ St Γ.w0 Γ.ms H' w ∧ R v H'

theorem ends_of {Γ : Ctx} {rs : List ResultVar} {R : Value → Heap → Prop} {e : Env} {H H' : Heap} {v : Value} (hr : ∀ w, St Γ.w0 Γ.ms H w → Rets Γ.P rs e w v)
    (hh : ∀ w, St Γ.w0 Γ.ms H w → St Γ.w0 Γ.ms H' w) (h : R v H') : Ends Γ rs R e H := fun w hw => ⟨v, H', hr w hw, hh w hw, h⟩

def ends (Γ : Ctx) (rs : List ResultVar) (R : Value → Heap → Prop) : Kont := ⟨Ends Γ rs R, Ends Γ rs R, []⟩

theorem results_eq {fn : Func} {n : Nat} {D : List Deferred} {e : Env} {a : Act} (ha : Rep n D e a) : results fn a.tmps = resOf fn.results.toList e := by
  unfold results resOf
  simp only [Array.toArray_toList]
  have : ∀ t, a.tmps.getD t undef = e t := fun t => by rw [ha.look]
  simp only [this]
  rfl

theorem rep_init {n : Nat} {args : List Value} (hn : args.length ≤ n) : Rep n [] (init args) { tmps := args.toArray ++ Array.replicate (n - args.toArray.size) undef, defers := [] } := by
  refine ⟨rfl, by simp; omega, ?_⟩
  funext t
  simp only [init, Array.getD_eq_getD_getElem?, List.getD_eq_getElem?_getD]
  by_cases h : t < args.length
  · rw [Array.getElem?_append_left (by simpa using h)]
    simp
  · rw [Array.getElem?_append_right (by simpa using h), Array.getElem?_replicate, List.getElem?_eq_none (by omega)]
    split <;> rfl

theorem does_of {P : Program} {f : Nat} {fn : Func} {c : Code} {args : List Value} {w : World} {ms : List Nat} {R : Value → Heap → Prop} {n : Nat} {H : Heap}
    (hf : P.funcs[f]? = some fn) (hb : fn.body = some c) (hn : fn.ntmps = n) (hl : Nat.ble args.length n = true) (hH : St w ms H w)
    (h : C ⟨P, n, w, ms, none, []⟩ c (ends ⟨P, n, w, ms, none, []⟩ fn.results.toList R) (init args) H) : Does P f args w ms R := by
  subst hn
  have hl' : args.length ≤ fn.ntmps := Nat.le_of_ble_eq_true hl
  refine (callsIn_wide (n := 0)).1 (callsIn_of_wp hf hb trivial (wpIn_mono (h _ w (rep_init hl') hH) ?_))
  rintro ex a' w' ⟨e', L', h1, h2, h3⟩
  have fin : ∀ v H', Rets P fn.results.toList e' w' v → St w ms H' w' → R v H' → a'.defers = [] ∧ ∃ v, (results fn a'.tmps).run P w' = .ok v w' ∧ ∃ v' H, Ending.returned v = .returned v' ∧ St w ms H w' ∧ R v' H :=
    fun v H' g1 g2 g3 => ⟨h1.defers, v, by rw [results_eq h1]; exact g1, v, H', rfl, g2, g3⟩
  cases ex <;> simp only [Kont.at, ends, Ends, seek] at h3
  case normal => obtain ⟨v, H', g1, g2, g3⟩ := h3 w' h2; exact fin v H' g1 g2 g3
  case ret => obtain ⟨v, H', g1, g2, g3⟩ := h3 w' h2; exact fin v H' g1 g2 g3

end Go.VV
