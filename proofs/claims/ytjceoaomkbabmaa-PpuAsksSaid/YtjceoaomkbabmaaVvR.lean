/- Ranges over functions: the call of yield in an iterator, a round's frame, the statement itself, the function that holds it. Plain lemmas; no program. -/
import Derived.Test.YtjceoaomkbabmaaVvL
import Derived.RangeFuncRecord
namespace Go.VV
open Go

theorem St.put {w0 w : World} {ms : List Nat} {b : Nat} {o : Obj} {R : Heap} (h : St w0 ms ((b, o) :: R) w) (o' : Obj) : St w0 ms ((b, o') :: R) (w.putObj b o') :=
  h.turn rfl rfl rfl (by simp) (fun _ hk => World.putObj_heap_other hk) (World.putObj_heap_same (h.lt (x := (b, o)) (.head _)))

/-- A round's frame: that of the function at the loop, yield's arguments in their slots. -/
def roundEnv : List Nat → List Value → Env → Env
  | p :: ps, v :: vs, e => roundEnv ps vs (e.set p v)
  | _, _, e => e

structure LoopOf (n : Nat) (e0 : Env) (ps : List Nat) (assign body : Code) (rec : Loop) : Prop where
  ready : rec.state = .ready
  calm : rec.pending = none
  params : rec.params = ps.toArray
  assign : rec.assign = assign
  body : rec.body = body
  rep : Rep n [] e0 { tmps := rec.tmps, defers := [] }

abbrev inR (Γ : Ctx) (n lb : Nat) : Ctx := ⟨Γ.P, n, Γ.w0, Γ.ms, some lb, []⟩
abbrev busy (rec : Loop) : Loop := { rec with state := .busy }

/-- One round: the assignments, the body; 'K': what yield hands back, and the heap. -/
def Round (Γ : Ctx) (n lb : Nat) (rec : Loop) (ps : List Nat) (assign body : Code) (vs : List Value) (e0 : Env) (H : Heap) (K : Value → Heap → Prop) : Prop :=
  C (inR Γ n lb) assign ⟨fun e1 H1 => ∃ G1, (∀ w, St Γ.w0 Γ.ms H1 w → St Γ.w0 Γ.ms ((lb, .loop rec) :: G1) w) ∧
      C (inR Γ n lb) body ⟨fun _ H2 => ∃ G2, (∀ w, St Γ.w0 Γ.ms H2 w → St Γ.w0 Γ.ms ((lb, .loop (busy rec)) :: G2) w) ∧ K (.bool true) ((lb, .loop rec) :: G2),
        fun _ H2 => ∃ G2, (∀ w, St Γ.w0 Γ.ms H2 w → St Γ.w0 Γ.ms ((lb, .loop (busy rec)) :: G2) w) ∧ K (.bool false) ((lb, .loop { rec with state := .done, pending := some .ret }) :: G2), []⟩ e1 ((lb, .loop (busy rec)) :: G1),
    fun _ _ => False, []⟩ (roundEnv ps vs e0) H

theorem rep_params {n : Nat} : ∀ {ps : List Nat} {vs : List Value} {e : Env} {tmps : Array Value}, ps.all (fun p => Nat.blt p n) = true → Rep n [] e { tmps := tmps, defers := [] } →
    Rep n [] (roundEnv ps vs e) { tmps := (ps.zip vs).foldl (fun tmps (t, a) => tmps.setIfInBounds t a) tmps, defers := [] }
  | [], _, _, _, _, h => by simpa [roundEnv] using h
  | _ :: _, [], _, _, _, h => by simpa [roundEnv] using h
  | p :: ps, v :: vs, e, tmps, hp, h => by
    simp only [List.all_cons, Bool.and_eq_true] at hp
    simp only [roundEnv, List.zip_cons_cons, List.foldl_cons]
    exact rep_params hp.2 (h.put (d := some p) (by simpa [dstOk] using hp.1) v)

theorem round_in {Γ : Ctx} {n lb : Nat} {rec : Loop} {ps : List Nat} {assign body : Code} {vs : List Value} {e0 : Env} {H : Heap} {K : Value → Heap → Prop} {r : Option Nat}
    (hl : LoopOf n e0 ps assign body rec) (hp : ps.all (fun p => Nat.blt p n) = true) (h : Round Γ n lb rec ps assign body vs e0 H K) {w : World} (hw : St Γ.w0 Γ.ms H w) :
    RoundIn (Fr r) 0 Γ.P lb rec.fn ((rec.params.zip vs.toArray).foldl (fun tmps (t, a) => tmps.setIfInBounds t a) rec.tmps) rec.assign rec.body w
      (fun ex w' => ∃ v H', ex = .returned v ∧ St Γ.w0 Γ.ms H' w' ∧ K v H') := by
  refine roundIn_of_wpIn (F := Fr r) trivial ?_
  have hrep := rep_params (vs := vs) hp hl.rep
  have hz : (rec.params.zip vs.toArray).foldl (fun tmps (t, a) => tmps.setIfInBounds t a) rec.tmps = (ps.zip vs).foldl (fun tmps (t, a) => tmps.setIfInBounds t a) rec.tmps := by
    rw [hl.params, List.zip_toArray, List.foldl_toArray]
  rw [hz, hl.assign, hl.body]
  refine wpIn_mono (h _ w hrep hw) ?_
  rintro ex a1 w1 ⟨e1, H1, ha1, hw1, h1⟩
  cases ex <;> simp only [Kont.at, Exit.then, seek] at h1 ⊢
  case normal =>
    obtain ⟨G1, hG1, hb⟩ := h1
    have hw1 := hG1 _ hw1
    refine ⟨_, run_beginRound (hw1.holds (lb, _) (.head _)) hl.ready, ?_⟩
    refine wpIn_mono (hb a1 _ ha1 (hw1.put _)) ?_
    rintro ex a2 w2 ⟨e2, H2, _, hw2, h2⟩
    cases ex <;> simp only [Kont.at, roundPost, seek] at h2 ⊢
    case normal =>
      obtain ⟨G2, hG2, hk⟩ := h2
      have hw2 := hG2 _ hw2
      refine ⟨_, _, run_endRound none (hw2.holds (lb, _) (.head _)), ?_⟩
      refine ⟨_, _, rfl, hw2.put _, ?_⟩
      have : ({ busy rec with state := if (none : Option Code).isNone = true then LoopState.ready else LoopState.done, pending := none } : Loop) = rec := by
        have h1 := hl.ready
        have h2 := hl.calm
        cases rec
        simp only at h1 h2
        simp [h1, h2]
      rw [this]
      exact hk
    case ret =>
      obtain ⟨G2, hG2, hk⟩ := h2
      have hw2 := hG2 _ hw2
      refine ⟨_, _, run_endRound (some .ret) (hw2.holds (lb, _) (.head _)), ?_⟩
      exact ⟨_, _, rfl, hw2.put _, hk⟩

section
variable {Γ : Ctx} {k : Kont} {e : Env} {H G : Heap} {ops rest : List Oper} {d : Option Nat} {t : TypeId} {pos : String} {af : Array Edge} {g : Option (Nat × Bool)}

/-- 'yield(..)' in an iterator. -/
theorem l_yield {n lb : Nat} {rec : Loop} {ps : List Nat} {assign body : Code} {vs : List Value} {e0 : Env} {K : Value → Heap → Prop} {x : Operand} {l : List Operand} {ts : Array TypeId}
    (hx : vnf (ev e x) = some (.func (.yield lb) #[] #[])) (hv : evs e l = some vs) (hg : gdB ops e ⟨d, .call ⟨.value x, l.toArray, ts⟩, t, pos, af, g⟩ = true) (hd : dstOk Γ.n d = true)
    (hn : Nat.beq ps.length vs.length = true) (hp : ps.all (fun p => Nat.blt p n) = true) (hm : (lb, .loop rec) ∈ H)
    (hl : LoopOf n e0 ps assign body rec) (hR : Round Γ n lb rec ps assign body vs e0 H K)
    (hk : ∀ v H', K v H' → L1 Γ ops rest k (e.put d v) H') : L1 Γ ops (⟨d, .call ⟨.value x, l.toArray, ts⟩, t, pos, af, g⟩ :: rest) k e H := by
  intro a w ha hw
  unfold wpListIn
  rw [gdB_eq ha, if_pos hg]
  refine ⟨fun _ _ => trivial, ?_⟩
  rw [Oper.semAt_eq _ _ _ (fun c => by simp), ha.eval]
  have hx := vnf_eq hx
  have hsz : (vs.toArray).size = rec.params.size := by rw [hl.params]; simp; exact (Nat.eq_of_beq_eq_true hn).symm
  have hmap : (List.toArray l).map (ev e) = vs.toArray := by rw [← evs_eq hv]; simp
  have hrun : (execOp (ev e) ⟨d, .call ⟨.value x, l.toArray, ts⟩, t, pos, af, g⟩).run Γ.P w =
      .ok (.round lb rec.fn ((rec.params.zip vs.toArray).foldl (fun tmps (t, a) => tmps.setIfInBounds t a) rec.tmps) rec.assign rec.body) w := by
    have hy := run_yield (P := Γ.P) (w := w) (r := rec) (args := vs.toArray) (hw.holds _ hm) hsz
    simp only [execOp, resolve, hmap, hx, Deferred.ofValue, invoke, pure_bind, Array.empty_append]
    exact hy
  rw [hrun]
  refine ⟨fun h => (by cases h), RoundIn.mono (round_in hl hp hR hw) ?_⟩
  rintro ex w' ⟨v, H', rfl, hw', hK⟩
  exact hk v H' hK _ _ (ha.put hd v) hw'
end

/-! ### the function that holds the loop -/
/-- The rest of a body, to its end. -/
def T (Γ : Ctx) (fn : Func) (R : Value → Heap → Prop) (c : Code) (e : Env) (H : Heap) : Prop :=
  ∀ a w, Rep Γ.n Γ.D e a → St Γ.w0 Γ.ms H w → c.wpIn (Fr Γ.r) 0 Γ.P (bodyPostM (Fr none) 0 Γ.P fn (fun ex w' => ∃ v H, ex = .returned v ∧ St Γ.w0 Γ.ms H w' ∧ R v H)) a w
def T2 (Γ : Ctx) (fn : Func) (R : Value → Heap → Prop) (y z : Code) (e : Env) (H : Heap) : Prop :=
  ∀ a w, Rep Γ.n Γ.D e a → St Γ.w0 Γ.ms H w →
    y.wpIn (Fr Γ.r) 0 Γ.P (Exit.then (z.wpIn (Fr Γ.r) 0 Γ.P (bodyPostM (Fr none) 0 Γ.P fn (fun ex w' => ∃ v H, ex = .returned v ∧ St Γ.w0 Γ.ms H w' ∧ R v H)))
      (bodyPostM (Fr none) 0 Γ.P fn (fun ex w' => ∃ v H, ex = .returned v ∧ St Γ.w0 Γ.ms H w' ∧ R v H))) a w

theorem does_of_T {P : Program} {f : Nat} {fn : Func} {c : Code} {args : List Value} {w : World} {ms : List Nat} {R : Value → Heap → Prop} {n : Nat} {H : Heap}
    (hf : P.funcs[f]? = some fn) (hb : fn.body = some c) (hn : fn.ntmps = n) (hl : Nat.ble args.length n = true) (hH : St w ms H w)
    (h : T ⟨P, n, w, ms, none, []⟩ fn R c (init args) H) : Does P f args w ms R := by
  subst hn
  have hl' : args.length ≤ fn.ntmps := Nat.le_of_ble_eq_true hl
  exact (callsIn_wide (n := 0)).1 (callsIn_of_wp_marks hf hb trivial (h _ w (rep_init hl') hH))

section
variable {Γ : Ctx} {fn : Func} {R : Value → Heap → Prop} {e : Env} {H : Heap}

/-- What a body's end asks where nothing is deferred. -/
theorem post_ends (hD : Γ.D = []) {ex : Exit} {a : Act} {w : World} {e : Env} {H : Heap} (hex : ex = .normal ∨ ex = .ret) (ha : Rep Γ.n Γ.D e a) (hw : St Γ.w0 Γ.ms H w) (h : Ends Γ fn.results.toList R e H) :
    bodyPostM (Fr none) 0 Γ.P fn (fun ex w' => ∃ v H, ex = .returned v ∧ St Γ.w0 Γ.ms H w' ∧ R v H) ex a w := by
  obtain ⟨v, H', g1, g2, g3⟩ := h w hw
  have hd : a.defers = [] := by rw [ha.defers, hD]
  have key : LeavesInM (Fr none) 0 Γ.P fn a.tmps (fun ex w' => ∃ v H, ex = .returned v ∧ St Γ.w0 Γ.ms H w' ∧ R v H) a.defers .returning w := by
    rw [hd]
    exact ⟨v, by rw [results_eq ha]; exact g1, v, H', rfl, g2, g3⟩
  rcases hex with rfl | rfl <;> exact key

theorem t_seq {x y : Code} (hD : Γ.D = []) (h : C Γ x ⟨fun e L => T Γ fn R y e L, Ends Γ fn.results.toList R, []⟩ e H) : T Γ fn R (.seq x y) e H := by
  intro a w ha hw
  refine wpIn_seq (wpIn_mono (h a w ha hw) ?_)
  rintro ex a' w' ⟨e', L', h1, h2, h3⟩
  cases ex <;> simp only [Kont.at, Exit.then, seek] at h3 ⊢
  case normal => exact h3 a' w' h1 h2
  case ret => exact post_ends hD (.inr rfl) h1 h2 h3

theorem t_seq2 {x y z : Code} (hD : Γ.D = []) (h : C Γ x ⟨fun e L => T2 Γ fn R y z e L, Ends Γ fn.results.toList R, []⟩ e H) : T Γ fn R (.seq (.seq x y) z) e H := by
  intro a w ha hw
  refine wpIn_seq (wpIn_seq (wpIn_mono (h a w ha hw) ?_))
  rintro ex a' w' ⟨e', L', h1, h2, h3⟩
  cases ex <;> simp only [Kont.at, Exit.then, seek] at h3 ⊢
  case normal => exact h3 a' w' h1 h2
  case ret => exact post_ends hD (.inr rfl) h1 h2 h3

/-- Behind the loop: the mark is taken up at the end. -/
theorem t_last {c : Code} {D0 : Nat} (hD : Γ.D = [{ target := .collected D0, args := #[] }])
    (h : C Γ c ⟨fun e H => ∃ G, (∀ w, St Γ.w0 Γ.ms H w → St Γ.w0 Γ.ms ((D0, .deferred (some [])) :: G) w) ∧ Ends Γ fn.results.toList R e G,
      fun e H => ∃ G, (∀ w, St Γ.w0 Γ.ms H w → St Γ.w0 Γ.ms ((D0, .deferred (some [])) :: G) w) ∧ Ends Γ fn.results.toList R e G, []⟩ e H) : T Γ fn R c e H := by
  intro a w ha hw
  refine wpIn_mono (h a w ha hw) ?_
  have key : ∀ (e' : Env) (a' : Act) (w' : World) (L' : Heap), Rep Γ.n Γ.D e' a' → St Γ.w0 Γ.ms L' w' →
      (∃ G, (∀ w, St Γ.w0 Γ.ms L' w → St Γ.w0 Γ.ms ((D0, .deferred (some [])) :: G) w) ∧ Ends Γ fn.results.toList R e' G) →
      LeavesInM (Fr none) 0 Γ.P fn a'.tmps (fun ex w' => ∃ v H, ex = .returned v ∧ St Γ.w0 Γ.ms H w' ∧ R v H) a'.defers .returning w' := by
    rintro e' a' w' L' h1 h2 ⟨G, hG, hE⟩
    have hw2 := hG _ h2
    have hd : a'.defers = [{ target := .collected D0, args := #[] }] := by rw [h1.defers, hD]
    rw [hd]
    have hw3 : St Γ.w0 Γ.ms G (w'.putObj D0 (.deferred none)) := (hw2.put (.deferred none)).sub (List.sublist_cons_self _ _)
    obtain ⟨v, H', g1, g2, g3⟩ := hE _ hw3
    refine ⟨by simp, .inl ⟨D0, _, rfl, run_takeDeferred (hw2.holds (D0, _) (.head _)), ?_⟩⟩
    exact ⟨v, by rw [results_eq h1]; exact g1, v, H', rfl, g2, g3⟩
  rintro ex a' w' ⟨e', L', h1, h2, h3⟩
  cases ex <;> simp only [Kont.at, seek] at h3 ⊢
  case normal => exact key e' a' w' L' h1 h2 h3
  case ret => exact key e' a' w' L' h1 h2 h3

/-- THE STATEMENT 'for .. := range f { .. }'; no round leaves the loop. -/
theorem t_range {id : Nat} {x : Operand} {ps : List Nat} {assign body z : Code} {f : Nat} {A B : List Value} (hr : Γ.r = none) (hD : Γ.D = [])
    (hx : vnf (ev e x) = some (.func (.func f) A.toArray B.toArray)) (hc : callable Γ.P f = true)
    (h : ∀ (w : World) (D0 lb : Nat) (rec : Loop), D0 = w.heap.size → lb = D0 + 1 → LoopOf Γ.n e ps assign body rec →
      ∀ w2, St Γ.w0 Γ.ms ((lb, .loop rec) :: (D0, .deferred (some [])) :: H) w2 → ∃ F G ms2 R2,
        (∀ w, St Γ.w0 Γ.ms ((lb, .loop rec) :: (D0, .deferred (some [])) :: H) w → St Γ.w0 Γ.ms (F ++ G) w) ∧ (∀ b ∈ ms2, ∃ o, (b, o) ∈ F) ∧
        Does Γ.P f (A ++ .func (.yield lb) #[] #[] :: B) w2 ms2 R2 ∧
        ∀ v H', R2 v H' → ∃ rec' G2, (∀ w, St Γ.w0 Γ.ms (H' ++ G) w → St Γ.w0 Γ.ms ((lb, .loop rec') :: G2) w) ∧ rec'.state ≠ .busy ∧ rec'.pending = none ∧
          T ⟨Γ.P, Γ.n, Γ.w0, Γ.ms, none, [{ target := .collected D0, args := #[] }]⟩ fn R z e ((lb, .loop { rec' with state := .exhausted }) :: G2)) :
    T2 Γ fn R (.block id (.rangeFunc x ps.toArray assign body)) z e H := by
  obtain ⟨P, n, w0, ms, r, D⟩ := Γ
  simp only at hr hD
  subst hr hD
  intro a w ha hw
  refine wpIn_block ?_
  refine wpIn_rangeFunc fun fno _ => ?_
  have he := run_enterLoop_outer (P := P) (w := w) fno a.tmps ps.toArray assign body
  have hw2 : St w0 ms ((w.heap.size + 1, .loop { state := .ready, pending := none, fn := fno, tmps := a.tmps, params := ps.toArray, assign, body, defers := w.heap.size }) :: (w.heap.size, .deferred (some [])) :: H)
      ((w.alloc (.deferred (some []))).alloc (.loop { state := .ready, pending := none, fn := fno, tmps := a.tmps, params := ps.toArray, assign, body, defers := w.heap.size })) := by
    have h1 := (hw.alloc (.deferred (some []))).alloc (.loop { state := .ready, pending := none, fn := fno, tmps := a.tmps, params := ps.toArray, assign, body, defers := w.heap.size })
    simpa using h1
  have hda : a.defers = [] := by rw [ha.defers]
  have hlo : LoopOf n e ps assign body { state := .ready, pending := none, fn := fno, tmps := a.tmps, params := ps.toArray, assign, body, defers := w.heap.size } :=
    ⟨rfl, rfl, rfl, rfl, rfl, ⟨rfl, ha.size, ha.look⟩⟩
  obtain ⟨F, G, ms2, R2, hFG, hms, hdo, hrest⟩ := h w _ _ _ rfl rfl hlo _ hw2
  have hx := vnf_eq hx
  have hcall : (invoke (.fn (.func f) B.toArray) (A.toArray ++ #[.func (.yield (w.heap.size + 1)) #[] #[]])).run P
      ((w.alloc (.deferred (some []))).alloc (.loop { state := .ready, pending := none, fn := fno, tmps := a.tmps, params := ps.toArray, assign, body, defers := w.heap.size })) =
      .ok (.enter f (A ++ .func (.yield (w.heap.size + 1)) #[] #[] :: B).toArray) ((w.alloc (.deferred (some []))).alloc (.loop { state := .ready, pending := none, fn := fno, tmps := a.tmps, params := ps.toArray, assign, body, defers := w.heap.size })) := by
    unfold callable at hc
    split at hc
    · rename_i fn' hf
      simp only [Bool.and_eq_true, Bool.not_eq_true'] at hc
      obtain ⟨h1, h2⟩ := hc
      have hs : (program : Sem Program) = .program .pure := rfl
      have h3 : ¬ fn'.name = "runtime.NumGoroutine" := by simpa using h1
      have h4 : ¬ fn'.body = none := by
        intro hx; rw [hx] at h2; cases h2
      simp [invoke, callFunc, bind, Sem.bind, Sem.run, hf, h3, h4, pure, hs]
    · cases hc
  have hev : a.eval x = .func (.func f) A.toArray B.toArray := by rw [ha.eval]; exact hx
  refine ⟨w.heap.size + 1, _, _, { target := .fn (.func f) B.toArray, args := A.toArray ++ #[.func (.yield (w.heap.size + 1)) #[] #[]] }, _, f, _, _, he, ?_, fun _ _ => trivial, hcall, fun h => (by cases h), calls_in (Calls.mono hdo ?_)⟩
  · have hk : a.eval (.const (.func (.yield (w.heap.size + 1)) #[] #[])) = .func (.yield (w.heap.size + 1)) #[] #[] := by rw [ha.eval]; rfl
    simp only [resolve, hev, hk, Deferred.ofValue, List.map_toArray, List.map_cons, List.map_nil, Sem.run_pure]
  · rintro ex w3 ⟨v, H', rfl, hw3, hR2⟩
    obtain ⟨rec', G2, hG2, hb, hpn, hT⟩ := hrest v H' hR2
    have hw4 := hG2 _ ((hFG _ hw2).call hms hw3)
    refine ⟨none, w3.putObj (w.heap.size + 1) (.loop { rec' with state := .exhausted }), ?_, ?_⟩
    · have := run_endLoop (P := P) (hw4.holds (w.heap.size + 1, _) (.head _)) hb
      exact this.trans (by rw [hpn])
    · simp only [Exit.inBlock, Exit.then]
      refine hT _ _ ⟨?_, ha.size, ha.look⟩ (hw4.put _)
      simp [hda]
end
end Go.VV
