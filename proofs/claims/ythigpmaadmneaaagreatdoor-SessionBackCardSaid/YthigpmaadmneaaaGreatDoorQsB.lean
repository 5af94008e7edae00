/- Parts. -/
import Derived.Laws.BytesArg
import Derived.Laws.Externs
import Derived.Laws.LoneSync
import Derived.Laws.Strings2
import Derived.Laws.StructEq
import Derived.Laws.World
import Derived.Lib.AppendZeros
import Derived.Lib.BufferWrite
import Derived.Lib.Builder
import Derived.Lib.ConvBytes
import Derived.Lib.Overlaps
import Derived.Maps.RangeRun
import Derived.RangeFuncRecord
import Derived.ScopeJumps
import Derived.Test.YthigpmaadmneaaaGreatDoorQsA
set_option maxRecDepth 100000
set_option maxHeartbeats 1000000
set_option linter.all false
namespace Go.VV
open Go
def St.put {w0 w : AI} {ms : AE} {b : Nat} {o : Obj} {R : aF} (h : St w0 ms ((b, o) :: R) w) (o' : Obj) : St w0 ms ((b, o') :: R) (w.putObj b o') :=
 h.turn rfl rfl rfl (by simp) (fun _ hk => World.putObj_heap_other hk) (World.putObj_heap_same (h.lt (x := (b, o)) (.head _)))
def Em : AE → AA → bB → bB
 | p :: ps, v :: vs, e => Em ps vs (e.set p v)
 | _, _, e => e
structure zZ (n : Nat) (e0 : bB) (ps : AE) (assign body : Code) (rec : Loop) : Prop where
 ready : rec.state = .ready
 calm : rec.pending = none
 params : rec.params = ps.toArray
 assign : rec.assign = assign
 body : rec.body = body
 rep : kX n [] e0 { tmps := rec.tmps, defers := [] }
abbrev P7 (Γ : dQ) (n lb : Nat) : dQ := ⟨Γ.P, n, Γ.w0, Γ.ms, some lb, []⟩
abbrev busy (rec : Loop) : Loop := { rec with state := .busy }
def aDY (Γ : dQ) (lb : Nat) (rec : Loop) (K : AH → aF → Prop) (c : Code) (_ : bB) (H2 : aF) : Prop :=
 ∃ G2, (∀ w, St Γ.w0 Γ.ms H2 w → St Γ.w0 Γ.ms ((lb, .loop (busy rec)) :: G2) w) ∧ K (.bool false) ((lb, .loop { rec with state := .done, pending := some c }) :: G2)
def uL (Γ : dQ) (n lb : Nat) (rec : Loop) (ps : AE) (assign body : Code) (vs : AA) (e0 : bB) (H : aF) (K : AH → aF → Prop) (js : AE := []) : Prop :=
 C (P7 Γ n lb) assign ⟨fun e1 H1 => ∃ G1, (∀ w, St Γ.w0 Γ.ms H1 w → St Γ.w0 Γ.ms ((lb, .loop rec) :: G1) w) ∧
   C (P7 Γ n lb) body ⟨fun _ H2 => ∃ G2, (∀ w, St Γ.w0 Γ.ms H2 w → St Γ.w0 Γ.ms ((lb, .loop (busy rec)) :: G2) w) ∧ K (.bool true) ((lb, .loop rec) :: G2),
    aDY Γ lb rec K .ret, js.map fun j => (2 * j, aDY Γ lb rec K (.exit j))⟩ e1 ((lb, .loop (busy rec)) :: G1),
  fun _ _ => False, []⟩ (Em ps vs e0) H
def C1 {f : Nat → bB → aF → Prop} : ∀ {js : AE} {i : Nat} {K : bB → aF → Prop}, oX (js.map fun j => (2 * j, f j)) i = some K → ∃ j, i = 2 * j ∧ K = f j
 | j :: js, i, K, h => by
  by_cases hi : 2 * j = i
  ·subst hi
   rw [cu, Ih] at h
   exact ⟨j, U, (aj h).symm⟩
  ·rw [cu, yM hi] at h
   exact C1 h
def Y7 {n : Nat} : ∀ {ps : AE} {vs : AA} {e : bB} {tmps : Array AH}, ps.all (fun p => Nat.blt p n) = true → kX n [] e { tmps := tmps, defers := [] } →
  kX n [] (Em ps vs e) { tmps := (ps.zip vs).foldl (fun tmps (t, a) => tmps.setIfInBounds t a) tmps, defers := [] }
 | [], _, _, _, _, h => by simpa [Em] using h
 | _ :: _, [], _, _, _, h => by simpa [Em] using h
 | p :: ps, v :: vs, e, tmps, hp, h => by
  simp only [go, cq] at hp
  simp only [Em, List.zip_cons_cons, jb]
  exact Y7 hp.2 (h.put (d := some p) (by simpa [eS] using hp.1) v)
def aOK {Γ : dQ} {n lb : Nat} {rec : Loop} {ps : AE} {assign body : Code} {vs : AA} {e0 : bB} {H : aF} {K : AH → aF → Prop} {r : AD}
  (hl : zZ n e0 ps assign body rec) (hp : ps.all (fun p => Nat.blt p n) = true) {js : AE} (h : uL Γ n lb rec ps assign body vs e0 H K js) {w : AI} (hw : St Γ.w0 Γ.ms H w) :
  RoundIn (Fr r) 0 Γ.P lb rec.fn ((rec.params.zip vs.toArray).foldl (fun tmps (t, a) => tmps.setIfInBounds t a) rec.tmps) rec.assign rec.body w
   (fun ex w' => ∃ v H', ex = .returned v ∧ St Γ.w0 Γ.ms H' w' ∧ K v H') := by
 refine roundIn_of_wpIn (F := Fr r) trivial ?_
 have hrep := Y7 (vs := vs) hp hl.rep
 have hz : (rec.params.zip vs.toArray).foldl (fun tmps (t, a) => tmps.setIfInBounds t a) rec.tmps = (ps.zip vs).foldl (fun tmps (t, a) => tmps.setIfInBounds t a) rec.tmps := by
  rw [hl.params, List.zip_toArray, List.foldl_toArray]
 rw [hz, hl.assign, hl.body]
 refine wpIn_mono (h _ w hrep hw) ?_
 rintro ex a1 w1 ⟨e1, H1, ha1, hw1, h1⟩
 cases ex <;> simp only [fT.at, Exit.then, oX] at h1 ⊢
 case normal =>
  obtain ⟨G1, hG1, hb⟩ := h1
  have hw1 := hG1 _ hw1
  refine ⟨_, run_beginRound (hw1.holds (lb, _) (.head _)) hl.ready, ?_⟩
  refine wpIn_mono (hb a1 _ ha1 (hw1.put _)) ?_
  rintro ex a2 w2 ⟨e2, H2, _, hw2, h2⟩
  cases ex <;> simp only [fT.at, roundPost] at h2 ⊢
  case exit j =>
   split at h2
   ·rename_i K' hK
    obtain ⟨j', hj, rfl⟩ := C1 hK
    obtain rfl : j = j' := by omega
    obtain ⟨G2, hG2, hk⟩ := h2
    have hw2 := hG2 _ hw2
    exact ⟨_, _, run_endRound (some (.exit j)) (hw2.holds (lb, _) (.head _)), _, _, U, hw2.put _, hk⟩
   ·exact h2.elim
  case goto l =>
   split at h2
   ·rename_i K' hK
    obtain ⟨j', hj, rfl⟩ := C1 hK
    omega
   ·exact h2.elim
  case normal =>
   obtain ⟨G2, hG2, hk⟩ := h2
   have hw2 := hG2 _ hw2
   refine ⟨_, _, run_endRound none (hw2.holds (lb, _) (.head _)), ?_⟩
   refine ⟨_, _, U, hw2.put _, ?_⟩
   have : ({ busy rec with state := if (none : Option Code).isNone = true then LoopState.ready else LoopState.done, pending := none } : Loop) = rec := by
    have h1 := hl.ready
    have h2 := hl.calm
    cases rec
    simp only at h1 h2
    simp [h1, h2]
   rw [this]
   exact hk
  case ret =>
   obtain ⟨G2, hG2, hk⟩ := h2
   have hw2 := hG2 _ hw2
   refine ⟨_, _, run_endRound (some .ret) (hw2.holds (lb, _) (.head _)), ?_⟩
   exact ⟨_, _, U, hw2.put _, hk⟩
section
variable {Γ : dQ} {k : fT} {e : bB} {H G : aF} {ops rest : List Oper} {d : AD} {t : AJ} {pos : String} {af : AG} {g : Option (Nat × Bool)}
def Ig {n lb : Nat} {rec : Loop} {ps : AE} {assign body : Code} {vs : AA} {e0 : bB} {K : AH → aF → Prop} {x : AK} {l : AF} {ts : Array AJ}
  (hx : bC (ev e x) = some (.func (.yield lb) #[] #[])) (hv : lI e l = some vs) (hg : eZ ops e ⟨d, .call ⟨.value x, l.toArray, ts⟩, t, pos, af, g⟩ = true) (hd : eS Γ.n d = true)
  (hn : Nat.beq ps.length vs.length = true) (hp : ps.all (fun p => Nat.blt p n) = true) (hm : (lb, .loop rec) ∈ H)
  (hl : zZ n e0 ps assign body rec) {js : AE} (hR : uL Γ n lb rec ps assign body vs e0 H K js)
  (hk : ∀ v H', K v H' → L1 Γ ops rest k (e.put d v) H') : L1 Γ ops (⟨d, .call ⟨.value x, l.toArray, ts⟩, t, pos, af, g⟩ :: rest) k e H := by
 intro a w ha hw
 unfold wpListIn
 rw [Bn ha, ag hg]
 refine ⟨fun _ _ => trivial, ?_⟩
 rw [Oper.semAt_eq _ _ _ (fun c => by simp), ha.eval]
 have hx := bT hx
 have hsz : (vs.toArray).size = rec.params.size := by rw [hl.params]; simp; exact (da hn).symm
 have hmap : (List.toArray l).map (ev e) = vs.toArray := by rw [← Cd hv]; simp
 have hrun : (execOp (ev e) ⟨d, .call ⟨.value x, l.toArray, ts⟩, t, pos, af, g⟩).run Γ.P w =
   .ok (.round lb rec.fn ((rec.params.zip vs.toArray).foldl (fun tmps (t, a) => tmps.setIfInBounds t a) rec.tmps) rec.assign rec.body) w := by
  have hy := run_yield (P := Γ.P) (w := w) (r := rec) (args := vs.toArray) (hw.holds _ hm) hsz
  simp only [execOp, resolve, hmap, hx, Deferred.ofValue, invoke, pure_bind, Array.empty_append]
  exact hy
 rw [hrun]
 refine ⟨fun h => (by cases h), RoundIn.mono (aOK hl hp hR hw) ?_⟩
 rintro ex w' ⟨v, H', rfl, hw', hK⟩
 exact hk v H' hK _ _ (ha.put hd v) hw'
end
def T (Γ : dQ) (fn : Func) (R : AH → aF → Prop) (c : Code) (e : bB) (H : aF) : Prop :=
 ∀ a w, kX Γ.n Γ.D e a → St Γ.w0 Γ.ms H w → c.wpIn (Fr Γ.r) 0 Γ.P (bodyPostM (Fr none) 0 Γ.P fn (fun ex w' => ∃ v H, ex = .returned v ∧ St Γ.w0 Γ.ms H w' ∧ R v H)) a w
def T2 (Γ : dQ) (fn : Func) (R : AH → aF → Prop) (y z : Code) (e : bB) (H : aF) : Prop :=
 ∀ a w, kX Γ.n Γ.D e a → St Γ.w0 Γ.ms H w →
  y.wpIn (Fr Γ.r) 0 Γ.P (Exit.then (z.wpIn (Fr Γ.r) 0 Γ.P (bodyPostM (Fr none) 0 Γ.P fn (fun ex w' => ∃ v H, ex = .returned v ∧ St Γ.w0 Γ.ms H w' ∧ R v H)))
   (bodyPostM (Fr none) 0 Γ.P fn (fun ex w' => ∃ v H, ex = .returned v ∧ St Γ.w0 Γ.ms H w' ∧ R v H))) a w
def E9 {P : AL} {f : Nat} {fn : Func} {c : Code} {args : AA} {w : AI} {ms : AE} {R : AH → aF → Prop} {n : Nat} {H : aF}
  (hf : P.funcs[f]? = some fn) (hb : fn.body = some c) (hn : fn.ntmps = n) (hl : Nat.ble args.length n = true) (hH : St w ms H w)
  (h : T ⟨P, n, w, ms, none, []⟩ fn R c (Eu args) H) : aG P f args w ms R := by
 subst hn
 have hl' : args.length ≤ fn.ntmps := ai hl
 exact (callsIn_wide (n := 0)).1 (callsIn_of_wp_marks hf hb trivial (h _ w (P9 hl') hH))
section
variable {Γ : dQ} {fn : Func} {R : AH → aF → Prop} {e : bB} {H : aF}
def aDN (hD : Γ.D = []) {ex : Exit} {a : Act} {w : AI} {e : bB} {H : aF} (hex : ex = .normal ∨ ex = .ret) (ha : kX Γ.n Γ.D e a) (hw : St Γ.w0 Γ.ms H w) (h : rC Γ fn.results.toList R e H) :
  bodyPostM (Fr none) 0 Γ.P fn (fun ex w' => ∃ v H, ex = .returned v ∧ St Γ.w0 Γ.ms H w' ∧ R v H) ex a w := by
 obtain ⟨v, H', g1, g2, g3⟩ := h w hw
 have hd : a.defers = [] := by rw [ha.defers, hD]
 have key : LeavesInM (Fr none) 0 Γ.P fn a.tmps (fun ex w' => ∃ v H, ex = .returned v ∧ St Γ.w0 Γ.ms H w' ∧ R v H) a.defers .returning w := by
  rw [hd]
  exact ⟨v, by rw [J8 ha]; exact g1, v, H', U, g2, g3⟩
 rcases hex with rfl | rfl <;> exact key
def tS {x y : Code} (hD : Γ.D = []) (h : C Γ x ⟨fun e L => T Γ fn R y e L, rC Γ fn.results.toList R, []⟩ e H) : T Γ fn R (.seq x y) e H := by
 intro a w ha hw
 refine wpIn_seq (wpIn_mono (h a w ha hw) ?_)
 rintro ex a' w' ⟨e', L', h1, h2, h3⟩
 cases ex <;> simp only [fT.at, Exit.then, oX] at h3 ⊢
 case normal => exact h3 a' w' h1 h2
 case ret => exact aDN hD (.inr rfl) h1 h2 h3
def I6 {x y z : Code} (hD : Γ.D = []) (h : C Γ x ⟨fun e L => T2 Γ fn R y z e L, rC Γ fn.results.toList R, []⟩ e H) : T Γ fn R (.seq (.seq x y) z) e H := by
 intro a w ha hw
 refine wpIn_seq (wpIn_seq (wpIn_mono (h a w ha hw) ?_))
 rintro ex a' w' ⟨e', L', h1, h2, h3⟩
 cases ex <;> simp only [fT.at, Exit.then, oX] at h3 ⊢
 case normal => exact h3 a' w' h1 h2
 case ret => exact aDN hD (.inr rfl) h1 h2 h3
def Zr {c : Code} {D0 : Nat} (hD : Γ.D = [{ target := .collected D0, args := #[] }])
  (h : C Γ c ⟨fun e H => ∃ G, (∀ w, St Γ.w0 Γ.ms H w → St Γ.w0 Γ.ms ((D0, .deferred (some [])) :: G) w) ∧ rC Γ fn.results.toList R e G,
   fun e H => ∃ G, (∀ w, St Γ.w0 Γ.ms H w → St Γ.w0 Γ.ms ((D0, .deferred (some [])) :: G) w) ∧ rC Γ fn.results.toList R e G, []⟩ e H) : T Γ fn R c e H := by
 intro a w ha hw
 refine wpIn_mono (h a w ha hw) ?_
 have key : ∀ (e' : bB) (a' : Act) (w' : AI) (L' : aF), kX Γ.n Γ.D e' a' → St Γ.w0 Γ.ms L' w' →
   (∃ G, (∀ w, St Γ.w0 Γ.ms L' w → St Γ.w0 Γ.ms ((D0, .deferred (some [])) :: G) w) ∧ rC Γ fn.results.toList R e' G) →
   LeavesInM (Fr none) 0 Γ.P fn a'.tmps (fun ex w' => ∃ v H, ex = .returned v ∧ St Γ.w0 Γ.ms H w' ∧ R v H) a'.defers .returning w' := by
  rintro e' a' w' L' h1 h2 ⟨G, hG, hE⟩
  have hw2 := hG _ h2
  have hd : a'.defers = [{ target := .collected D0, args := #[] }] := by rw [h1.defers, hD]
  rw [hd]
  have hw3 : St Γ.w0 Γ.ms G (w'.putObj D0 (.deferred none)) := (hw2.put (.deferred none)).sub (bj _ _)
  obtain ⟨v, H', g1, g2, g3⟩ := hE _ hw3
  refine ⟨by simp, .inl ⟨D0, _, U, run_takeDeferred (hw2.holds (D0, _) (.head _)), ?_⟩⟩
  exact ⟨v, by rw [J8 h1]; exact g1, v, H', U, g2, g3⟩
 rintro ex a' w' ⟨e', L', h1, h2, h3⟩
 cases ex <;> simp only [fT.at, oX] at h3 ⊢
 case normal => exact key e' a' w' L' h1 h2 h3
 case ret => exact key e' a' w' L' h1 h2 h3
def L3 {id : Nat} {x : AK} {ps : AE} {assign body z : Code} {f : Nat} {A B : AA} (hr : Γ.r = none) (hD : Γ.D = [])
  (hx : bC (ev e x) = some (.func (.func f) A.toArray B.toArray)) (hc : gR Γ.P f = true)
  (h : ∀ (w : AI) (D0 lb : Nat) (rec : Loop), D0 = w.heap.size → lb = D0 + 1 → zZ Γ.n e ps assign body rec →
   ∀ w2, St Γ.w0 Γ.ms ((lb, .loop rec) :: (D0, .deferred (some [])) :: H) w2 → ∃ F G ms2 R2,
    (∀ w, St Γ.w0 Γ.ms ((lb, .loop rec) :: (D0, .deferred (some [])) :: H) w → St Γ.w0 Γ.ms (F ++ G) w) ∧ (∀ b ∈ ms2, ∃ o, (b, o) ∈ F) ∧
    aG Γ.P f (A ++ .func (.yield lb) #[] #[] :: B) w2 ms2 R2 ∧
    ∀ v H', R2 v H' → ∃ rec' G2, (∀ w, St Γ.w0 Γ.ms (H' ++ G) w → St Γ.w0 Γ.ms ((lb, .loop rec') :: G2) w) ∧ rec'.state ≠ .busy ∧ (rec'.pending = none ∨ rec'.pending = some (.exit id)) ∧
     T ⟨Γ.P, Γ.n, Γ.w0, Γ.ms, none, [{ target := .collected D0, args := #[] }]⟩ fn R z e ((lb, .loop { rec' with state := .exhausted }) :: G2)) :
  T2 Γ fn R (.block id (.rangeFunc x ps.toArray assign body)) z e H := by
 obtain ⟨P, n, w0, ms, r, D⟩ := Γ
 simp only at hr hD
 subst hr hD
 intro a w ha hw
 refine wpIn_block ?_
 refine wpIn_rangeFunc fun fno _ => ?_
 have he := run_enterLoop_outer (P := P) (w := w) fno a.tmps ps.toArray assign body
 have hw2 : St w0 ms ((w.heap.size + 1, .loop { state := .ready, pending := none, fn := fno, tmps := a.tmps, params := ps.toArray, assign, body, defers := w.heap.size }) :: (w.heap.size, .deferred (some [])) :: H)
   ((w.alloc (.deferred (some []))).alloc (.loop { state := .ready, pending := none, fn := fno, tmps := a.tmps, params := ps.toArray, assign, body, defers := w.heap.size })) := by
  have h1 := (hw.alloc (.deferred (some []))).alloc (.loop { state := .ready, pending := none, fn := fno, tmps := a.tmps, params := ps.toArray, assign, body, defers := w.heap.size })
  simpa using h1
 have hda : a.defers = [] := by rw [ha.defers]
 have hlo : zZ n e ps assign body { state := .ready, pending := none, fn := fno, tmps := a.tmps, params := ps.toArray, assign, body, defers := w.heap.size } :=
  ⟨rfl, rfl, rfl, rfl, rfl, ⟨rfl, ha.size, ha.look⟩⟩
 obtain ⟨F, G, ms2, R2, hFG, hms, hdo, hrest⟩ := h w _ _ _ rfl rfl hlo _ hw2
 have hx := bT hx
 have hcall : (invoke (.fn (.func f) B.toArray) (A.toArray ++ #[.func (.yield (w.heap.size + 1)) #[] #[]])).run P
   ((w.alloc (.deferred (some []))).alloc (.loop { state := .ready, pending := none, fn := fno, tmps := a.tmps, params := ps.toArray, assign, body, defers := w.heap.size })) =
   .ok (.enter f (A ++ .func (.yield (w.heap.size + 1)) #[] #[] :: B).toArray) ((w.alloc (.deferred (some []))).alloc (.loop { state := .ready, pending := none, fn := fno, tmps := a.tmps, params := ps.toArray, assign, body, defers := w.heap.size })) := by
  unfold gR at hc
  split at hc
  ·rename_i fn' hf
   simp only [cq, gb] at hc
   obtain ⟨h1, h2⟩ := hc
   have hs : (program : Sem AL) = .program .pure := rfl
   have h3 : ¬ fn'.name = "runtime.NumGoroutine" := by simpa using h1
   have h4 : ¬ fn'.body = none := by
    intro hx; rw [hx] at h2; cases h2
   simp [invoke, callFunc, bind, Sem.bind, Sem.run, hf, h3, h4, pure, hs]
  ·cases hc
 have hev : a.eval x = .func (.func f) A.toArray B.toArray := by rw [ha.eval]; exact hx
 refine ⟨w.heap.size + 1, _, _, { target := .fn (.func f) B.toArray, args := A.toArray ++ #[.func (.yield (w.heap.size + 1)) #[] #[]] }, _, f, _, _, he, ?_, fun _ _ => trivial, hcall, fun h => (by cases h), Wb (Calls.mono hdo ?_)⟩
 ·have hk : a.eval (.const (.func (.yield (w.heap.size + 1)) #[] #[])) = .func (.yield (w.heap.size + 1)) #[] #[] := by rw [ha.eval]; rfl
  simp only [resolve, hev, hk, Deferred.ofValue, dj, cu, dk, ca]
 ·rintro ex w3 ⟨v, H', rfl, hw3, hR2⟩
  obtain ⟨rec', G2, hG2, hb, hpn, hT⟩ := hrest v H' hR2
  have hw4 := hG2 _ ((hFG _ hw2).call hms hw3)
  refine ⟨rec'.pending, w3.putObj (w.heap.size + 1) (.loop { rec' with state := .exhausted }), ?_, ?_⟩
  ·exact run_endLoop (P := P) (hw4.holds (w.heap.size + 1, _) (.head _)) hb
  ·have hw5 := hw4.put (.loop { rec' with state := .exhausted })
   generalize w3.putObj (w.heap.size + 1) (.loop { rec' with state := .exhausted }) = w5 at hw5 ⊢
   rcases hpn with hpn | hpn <;> rw [hpn]
   ·simp only [Exit.inBlock, Exit.then]
    refine hT _ _ ⟨?_, ha.size, ha.look⟩ hw5
    simp [hda]
   ·refine wpIn_exit ?_
    simp only [Exit.inBlock, ag, Exit.then]
    refine hT _ _ ⟨?_, ha.size, ha.look⟩ hw5
    simp [hda]
def aJY {id : Nat} {x : AK} {ps : AE} {assign body z : Code} {f : Nat} {A B : AA} (hr : Γ.r = none) (hD : Γ.D = [])
  (hx : bC (ev e x) = some (.func (.func f) A.toArray B.toArray)) (hc : gR Γ.P f = true)
  (h : ∀ (w : AI) (D0 lb : Nat) (rec : Loop), D0 = w.heap.size → lb = D0 + 1 → zZ Γ.n e ps assign body rec →
   ∀ w2, St Γ.w0 Γ.ms ((lb, .loop rec) :: (D0, .deferred (some [])) :: H) w2 → ∃ F G ms2 R2,
    (∀ w, St Γ.w0 Γ.ms ((lb, .loop rec) :: (D0, .deferred (some [])) :: H) w → St Γ.w0 Γ.ms (F ++ G) w) ∧ (∀ b ∈ ms2, ∃ o, (b, o) ∈ F) ∧
    aG Γ.P f (A ++ .func (.yield lb) #[] #[] :: B) w2 ms2 R2 ∧
    ∀ v H', R2 v H' → ∃ rec' G2, (∀ w, St Γ.w0 Γ.ms (H' ++ G) w → St Γ.w0 Γ.ms ((lb, .loop rec') :: G2) w) ∧ rec'.state ≠ .busy ∧ rec'.pending = none ∧
     T ⟨Γ.P, Γ.n, Γ.w0, Γ.ms, none, [{ target := .collected D0, args := #[] }]⟩ fn R z e ((lb, .loop { rec' with state := .exhausted }) :: G2)) :
  T2 Γ fn R (.block id (.rangeFunc x ps.toArray assign body)) z e H :=
 L3 hr hD hx hc fun w D0 lb rec h1 h2 h3 w2 h4 => by
  obtain ⟨F, G, ms2, R2, k1, k2, k3, k4⟩ := h w D0 lb rec h1 h2 h3 w2 h4
  refine ⟨F, G, ms2, R2, k1, k2, k3, fun v H' h9 => ?_⟩
  obtain ⟨rec', G2, q1, q2, q3, q4⟩ := k4 v H' h9
  exact ⟨rec', G2, q1, q2, .inl q3, q4⟩
end
section
variable {P : AL} {Γ : dQ} {k : fT} {e : bB} {H H' : aF} {ops rest : List Oper} {d : AD} {ty : AJ} {pos : String} {af : AG} {g : Option (Nat × Bool)}
 {S : AI → Prop} {need : AE} {pl : lH}
def cZ (hs : ∀ w, St Γ.w0 Γ.ms H w → St Γ.w0 Γ.ms H' w) (h : L1 Γ ops rest k e H') : L1 Γ ops rest k e H := fun a w ha hw => h a w ha (hs w hw)
def jC (hs : ∀ w, St Γ.w0 Γ.ms H w → St Γ.w0 Γ.ms H' w) (h : L2 Γ ops S need pl k e H') : L2 Γ ops S need pl k e H := fun a w ha hw => h a w ha (hs w hw)
def aEE {w0 w : AI} {ms : AE} (A B R : aF) (h : St w0 ms (A ++ (B ++ R)) w) : St w0 ms (B ++ (A ++ R)) w := h.perm (by
 rw [← de, ← de]
 exact d7 R bg)
def aDr {t : AJ} {x y : AK} {T s by_ : Nat} {u : AH} {b n cp m : Nat} {l ys : AA} {ts : Array AJ} (i : Nat)
  (hx : bC (ev e x) = some (.slice (some ⟨b, 0, none⟩) n cp)) (hy : ev e y = u) (hts : ts = #[t, t]) (hp : wV Γ.P t = some (T, s, by_)) (hi : H[i]? = some (b, J l T))
  (hs : ∀ w, St Γ.w0 Γ.ms H w → uB w s u m ys) (h1 : fL ys = true) (hroom : n + m ≤ cp) (hfit : n * s + ys.length ≤ l.length) :
  dZ Γ ⟨d, .call ⟨.builtin .append, #[x, y], ts⟩, ty, pos, af, g⟩ e H (fun v' H' => v' = .slice (some ⟨b, 0, none⟩) (n + m) cp ∧ H' = H.set i (b, J (aV l (n * s) ys) T)) := by
 intro w hw
 subst hts hy
 have hx := bT hx
 unfold wV at hp
 split at hp <;> try cases hp
 rename_i el hu
 split at hp <;> try cases hp
 rename_i ti hti
 split at hp <;> try cases hp
 rename_i z hz
 split at hp <;> try cases hp
 have hg : w.heap[b]? = some (J l T) := hw.own_blk (cw hi)
 have hs' := hs w hw
 generalize hue : ev e y = u at hs'
 cases hs' with
 | row b2 off2 m c ys hn hr =>
  have h3 := run_append_room (P := Γ.P) w t ty T ti hu hti b n cp l.toArray hg ⟨b2, off2, none⟩ m c ys hn hr.add (by simpa [fL] using h1) hroom (by simpa using hfit)
  refine gX (v := .slice (some ⟨b, 0, none⟩) (n + m) cp) (w' := w.setRow b (aV l (n * ti.size) ys).toArray) ?_ ⟨_, ?_, U, U⟩
  ·simp only [execOp, resolve, ay, ca, au, invoke, builtin, dj, cu, dk, hx, hue, h3]
   rfl
  ·exact hw.setAt hi U U U (by simp [World.setRow]) (fun k hk => setRow_other w b k _ hk) (setRow_heap w b _ _ T _ hg)
def aKp (z : AA) (n : Nat) : (Builtin.zeroCells z.toArray n).toList = mG (n * z.length) z := by
 unfold Builtin.zeroCells
 have := F4 (n * z.length) z
 simp only [jr] at this ⊢
 rw [this]
def Zv (n : Nat) (z : AA) : (mG n z).length = n := by simp [mG]
def aHC {n : Nat} {z : AA} (hz : fL z = true) (hl : 0 < z.length) : fL (mG n z) = true := by
 refine List.all_eq_true.2 fun x hx => ?_
 simp only [mG, jd] at hx
 obtain ⟨i, _, rfl⟩ := hx
 have hi : i % z.length < z.length := io _ hl
 rw [dd, am hi, Option.getD_some]
 exact List.all_eq_true.1 hz _ (fh _)
def aCK {t el : AJ} {x : AK} {s b off n c : Nat} {z l : AA} {T : AJ} {ts : Array AJ} (i : Nat)
  (hx : bC (ev e x) = some (.slice (some ⟨b, off, none⟩) n c)) (hts : ts = #[t]) (hu : rE Γ.P t = some (el, s)) (hz : tJ Γ.P el = some z) (hzl : Nat.blt 0 z.length = true) (h1 : fL z = true)
  (hi : H[i]? = some (b, J l T)) (hn : 0 < n) (hl : off + n * z.length ≤ l.length) :
  dZ Γ ⟨d, .call ⟨.builtin .clear, #[x], ts⟩, ty, pos, af, g⟩ e H (fun v' H' => v' = .tuple #[] ∧ H' = H.set i (b, J (aV l off (mG (n * z.length) z)) T)) := by
 intro w hw
 subst hts
 obtain ⟨g1, g2⟩ := wZ hu
 have hx := bT hx
 have hg : w.heap[b]? = some (J l T) := hw.own_blk (cw hi)
 obtain ⟨zv, hzv, hzc⟩ := Pm hz w
 have hzl : 0 < z.length := ef ii (ai hzl)
 have hst := run_storeCells_at Γ.P b off T (mG (n * z.length) z) 0 l.toArray w hg (by rw [Zv]; simpa using hl) (by simpa [fL] using aHC (n := n * z.length) h1 hzl)
 simp only [gr] at hst
 have hn0 : n ≠ 0 := by omega
 have key : (Builtin.clear_ #[t] ty #[.slice (some ⟨b, off, none⟩) n c]).run Γ.P w = .ok (.tuple #[]) (w.setRow b (aV l off (mG (n * z.length) z)).toArray) := by
  obtain ⟨n', rfl⟩ : ∃ n', n = n' + 1 := ⟨n - 1, by omega⟩
  simp [Builtin.clear_, ay, run_underlying g1, hzv, hzc, aKp, hst, aV]
 refine gX (v := .tuple #[]) (w' := w.setRow b (aV l off (mG (n * z.length) z)).toArray) ?_ ⟨_, ?_, U, U⟩
 ·simp only [execOp, resolve, ay, ca, au, invoke, builtin, dj, cu, dk, hx, key]
 ·exact hw.setAt hi U U U (by simp [World.setRow]) (fun k hk => setRow_other w b k _ hk) (setRow_heap w b _ _ T _ hg)
def aBx {t : AJ} {x : AK} {lo hi mx : AK} {b off n c el s : Nat} {jl jh jm : Int} (l h m : Nat) (hx : bC (ev e x) = some (.slice (some ⟨b, off, none⟩) n c))
  (hu : rE P t = some (el, s)) (hlo : nX e (some lo) = some (some jl)) (hhi : nX e (some hi) = some (some jh)) (hmx : nX e (some mx) = some (some jm)) (hl : jl = (l : Int)) (hh : jh = (h : Int)) (hm : jm = (m : Int))
  (h1 : l ≤ h) (h2 : h ≤ m) (h3 : m ≤ c) :
  dT P e ⟨d, .slice t x (some lo) (some hi) (some mx), ty, pos, af, g⟩ = some (.slice (some ⟨b, mU off l s m, none⟩) (h - l) (m - l)) := by
 obtain ⟨g1, g2⟩ := wZ hu
 have hx := bT hx
 refine jA ?_ U
 have hb : Instr.sliceBounds true n c (some (ev e lo)) (some (ev e hi)) (some (ev e mx)) = pure (l, h, m) := by
  simp only [Instr.sliceBounds, Iv hmx hm h3, Iv hhi hh h2, Iv hlo hl h1, pure_bind, Option.isSome_some, if_true]
 simp only [execOp, hx, Instr.sliceAt, Instr.slice, bind_assoc, mS g1, i6, hb, qQ, uZ g2]
 unfold mU
 by_cases hcl : m = l
 ·simp only [hcl, if_true]; rfl
 ·simp only [hcl, if_false, xF]; rfl
end
def fl : List aF → aF
 | [] => []
 | [a] => a
 | a :: b :: r => a ++ fl (b :: r)
def aFB (a : aF) (cs : List aF) : fl (a :: cs) = a ++ fl cs := by
 cases cs with
 | nil => simp [fl]
 | cons b r => rfl
def aFr : ∀ (cs : List aF), fl cs = cs.flatten
 | [] => rfl
 | a :: cs => by rw [aFB, aFr cs, List.flatten_cons]
def aPF {α : Type} {a b : List (List α)} (h : a.Perm b) : a.flatten.Perm b.flatten := by
 induction h with
 | nil => exact .refl _
 | cons x _ ih => simpa using ih.append_left x
 | swap x y l =>
  simp only [List.flatten_cons]
  rw [← de, ← de]
  exact d7 _ bg
 | trans _ _ ih1 ih2 => exact ih1.trans ih2
def Tr (n : Nat) : AE → Bool
 | [] => true
 | i :: r => Nat.blt i n && !(r.any (Nat.beq i)) && Tr n r
def aKd {α : Type} : ∀ (ix : AE) (cs : List α), Tr cs.length ix = true → ∃ rest, cs.Perm (ix.filterMap (cs[·]?) ++ rest) := by
 intro ix cs h
 have hnd : ix.Nodup ∧ ∀ i ∈ ix, i < cs.length := by
  induction ix with
  | nil => exact ⟨List.nodup_nil, fun _ h => by cases h⟩
  | cons i r ih =>
   simp only [Tr, cq, gb] at h
   obtain ⟨⟨h1, h2⟩, h3⟩ := h
   obtain ⟨g1, g2⟩ := ih h3
   refine ⟨List.nodup_cons.2 ⟨fun hm => ?_, g1⟩, fun j hj => ?_⟩
   ·have : r.any (Nat.beq i) = true := List.any_eq_true.2 ⟨i, hm, Nat.beq_refl i⟩
    rw [this] at h2; cases h2
   ·rcases List.mem_cons.1 hj with rfl | hj
    ·exact ef (Nat.lt_succ_self _) (ai h1)
    ·exact g2 j hj
 have hall : cs = (List.range cs.length).filterMap (cs[·]?) := by
  clear h hnd
  induction cs with
  | nil => rfl
  | cons x L ih =>
   rw [iz, List.range_succ_eq_map, List.filterMap_cons]
   simp only [fj, List.filterMap_map, Function.comp_def, eq]
   rw [← ih]
 refine ⟨((List.range cs.length).filter (fun i => !ix.contains i)).filterMap (cs[·]?), ?_⟩
 conv => lhs; rw [hall]
 rw [← List.filterMap_append]
 refine List.Perm.filterMap _ ?_
 rw [List.perm_ext_iff_of_nodup List.nodup_range (List.nodup_append.2 ⟨hnd.1, List.nodup_range.filter _, fun a ha b hb => by rintro rfl; simp at hb; exact hb.2 ha⟩)]
 intro a
 simp only [gt, ja, List.mem_filter, gb, List.contains_eq_mem, ah]
 constructor
 ·intro ha
  by_cases hm : a ∈ ix
  ·exact .inl hm
  ·exact .inr ⟨ha, hm⟩
 ·rintro (hm | hm)
  ·exact hnd.2 a hm
  ·exact hm.1
def St.fl {w0 w : AI} {ms : AE} (cs : List aF) (ix : AE) (hp : Tr cs.length ix = true) (h : St w0 ms (VV.fl cs) w) : St w0 ms (VV.fl (ix.filterMap (cs[·]?))) w := by
 obtain ⟨rest, hr⟩ := aKd ix cs hp
 rw [aFr] at h ⊢
 exact (h.perm (aPF hr)).sub (by rw [List.flatten_append]; exact cj _ _)
def St.as {w0 w : AI} {ms : AE} {L L' : aF} (h : St w0 ms L w) (he : L = L') : St w0 ms L' w := he ▸ h
end Go.VV
namespace Go.VV
open Go Go.ChangeShapes Go.WideShapes Go.ChangeAt Go.RowKit
inductive CK where
 | int (k : AM)
 | bool
 | str
def aHJ : CK → AH → Prop
 | .int k, v => ∃ n, v = .int k n ∧ (Lit.int k n).wf = true
 | .bool, v => ∃ b, v = .bool b
 | .str, v => ∃ s : ByteArray, v = .string s ∧ s.size ≤ maxLen
def nG : List CK → AA → Prop
 | [], [] => True
 | k :: ks, v :: vs => aHJ k v ∧ nG ks vs
 | _, _ => False
def nG.app : ∀ {a b : List CK} {x y : AA}, nG a x → nG b y → nG (a ++ b) (x ++ y)
 | [], _, [], _, _, h => h
 | _ :: _, _, _ :: _, _, h, h2 => ⟨h.1, nG.app h.2 h2⟩
 | [], _, _ :: _, _, h, _ => h.elim
 | _ :: _, _, [], _, h, _ => h.elim
def nG.len : ∀ {a : List CK} {x : AA}, nG a x → a.length = x.length
 | [], [], _ => rfl
 | _ :: _, _ :: _, h => by simp [nG.len h.2]
 | [], _ :: _, h => h.elim
 | _ :: _, [], h => h.elim
section
variable (P : AL)
def Sy (f : AJ → Option (List CK)) : List Field → Nat → Option (List CK)
 | [], _ => some []
 | fd :: r, off => match f fd.type with
  | some ks => bif Nat.beq fd.offset off && Nat.beq (P.cellsOf fd.type) ks.length then (match Sy f r (off + ks.length) with
   | some rs => some (ks ++ rs)
   | none => none) else none
  | none => none
def Ew : Nat → AJ → Option (List CK)
 | 0, _ => none
 | n + 1, t => match P.underlying t with
  | some (.int k) => some [.int k]
  | some .bool => some [.bool]
  | some .string => some [.str]
  | some (.struct ⟨fs⟩) => match Sy P (Ew n) fs 0 with
   | some ks => bif Nat.beq (P.cellsOf t) ks.length then some ks else none
   | none => none
  | _ => none
end
section
variable {H : Type} {enc : AJ × AH → H} {P : AL} {W : AI} {base : Nat} {spare : Nat → Bool} {held : Bool}
def W5 {f : AJ → Option (List CK)} {n : Nat} {cs : AA} (hf : ∀ {t : AJ} {ks : List CK} {xs : AA} {y : DataW H × List MemPlace}, f t = some ks → DataW.trod enc P W base spare held n t xs = some y → nG ks xs) :
  ∀ (fs : List Field) (off : Nat) (ks : List CK), Sy P f fs off = some ks → (∀ fd ∈ fs, ∃ y, DataW.trod enc P W base spare held n fd.type ((cs.drop fd.offset).take (P.cellsOf fd.type)) = some y) → nG ks ((cs.drop off).take ks.length)
 | [], off, ks, h, _ => by cases h; simp [nG]
 | fd :: r, off, ks, h, hy => by
  simp only [Sy] at h
  split at h
  ·rename_i k1 hk1
   by_cases hb : (Nat.beq fd.offset off && Nat.beq (P.cellsOf fd.type) k1.length) = true
   ·rw [hb, cond_true] at h
    simp only [cq] at hb
    have h1 := da hb.1
    have h2 := da hb.2
    split at h
    ·rename_i rs hrs
     cases h
     obtain ⟨y, hy1⟩ := hy fd (.head _)
     have a1 := hf hk1 hy1
     have a2 := W5 hf r _ rs hrs fun g hg => hy g (.tail _ hg)
     rw [h1, h2] at a1
     rw [ei, iw, bw]
     exact a1.app a2
    ·cases h
   ·simp only [f2] at hb
    rw [hb, cond_false] at h
    cases h
  ·cases h
def aAV : ∀ (m : Nat) {n : Nat} {t : AJ} {ks : List CK} {cs : AA} {y : DataW H × List MemPlace}, Ew P m t = some ks → DataW.trod enc P W base spare held n t cs = some y → nG ks cs
 | 0, _, _, _, _, _, h, _ => by cases h
 | m + 1, n, t, ks, cs, y, h, hy => by
  simp only [Ew] at h
  split at h
  ·rename_i k ht
   cases h
   obtain ⟨x, rfl, _, hw⟩ := DataW.trod_int ht hy
   exact ⟨⟨x, U, hw⟩, trivial⟩
  ·rename_i ht
   cases h
   obtain ⟨b, rfl, _⟩ := DataW.trod_bool ht hy
   exact ⟨⟨b, U⟩, trivial⟩
  ·rename_i ht
   cases h
   obtain ⟨s, rfl, _, hs⟩ := DataW.trod_string ht hy
   exact ⟨⟨s, U, hs⟩, trivial⟩
  ·rename_i fs ht
   split at h
   ·rename_i k1 hk1
    by_cases hb : Nat.beq (P.cellsOf t) k1.length = true
    ·rw [hb, cond_true] at h
     cases h
     obtain ⟨xs, n', rfl, _, hl, hlen, hf⟩ := DataW.trod_struct ht hy
     have := W5 (cs := cs) (fun h1 h2 => aAV m h1 h2) fs 0 _ hk1 (fun fd hfd => by
      obtain ⟨i, hi, rfl⟩ := gl hfd
      have h3 := hf i fs[i] (by simp [hi])
      have hi' : i < xs.length := by rw [hlen]; simpa using hi
      rw [am hi'] at h3
      exact ⟨_, h3⟩)
     rw [kh, ← da hb, ← hl, dq] at this
     exact this
    ·simp only [f2] at hb
     rw [hb, cond_false] at h
     cases h
   ·cases h
  ·cases h
def A7 {α β : Type} {f : β → α} {p : β → Prop} : ∀ {L : List α}, (∀ r ∈ L, ∃ s, r = f s ∧ p s) → ∃ l : List β, L = l.map f ∧ ∀ s ∈ l, p s
 | [], _ => ⟨[], rfl, fun _ h => by cases h⟩
 | r :: L, h => by
  obtain ⟨s, rfl, hs⟩ := h r (.head _)
  obtain ⟨l, rfl, hl⟩ := A7 (L := L) fun x hx => h x (.tail _ hx)
  exact ⟨s :: l, U, fun x hx => by rcases List.mem_cons.1 hx with rfl | hx; exact hs; exact hl x hx⟩
def aL1 {α : Type} {t e : AJ} {ks : List CK} {c : α → AA} {p : α → Prop} (s : Nat) {cs : AA} {n : Nat} {y : DataW H × List MemPlace} (ht : P.underlying t = some (.slice e)) (hk : Ew P 9 e = some ks) (hc : P.cellsOf e = s) (hs : Nat.blt 0 s = true)
  (hp : ∀ cs, nG ks cs → ∃ x, cs = c x ∧ p x) (hf : DataW.trod enc P W 0 (fun _ => true) true n t cs = some y) :
  ∃ (a : AC) (cp : Nat) (l : List α), cs = [.slice a l.length cp] ∧ l.length ≤ cp ∧ l.length ≤ maxLen ∧ (∀ x ∈ l, p x) ∧ iY W c a l := by
 subst hc
 have hs : 0 < P.cellsOf e := ef ii (ai hs)
 rcases Deep.open_slice ht hf with ⟨rfl, _⟩ | ⟨x, len, cap, m, n, D, Pl, rfl, _, hl, hm, hmm, _, hel⟩
 ·exact ⟨none, 0, [], U, bi _, av _, fun _ h => (by cases h), iY.nil _ _ _⟩
 ·have hlm : len ≤ m := by rw [hmm]; split <;> omega
  have key : ∀ i, i < len → ∃ y : α, (∀ j, j < P.cellsOf e → W.cell? ((x.add (i * P.cellsOf e)).add j) = (c y)[j]?) ∧ (c y).length = P.cellsOf e ∧ p y := fun i hi => by
   obtain ⟨cs, h1, h2⟩ := hel i (by omega)
   obtain ⟨_, h3, h4⟩ := World.cells?_some h1
   obtain ⟨y, rfl, hy⟩ := hp cs (aAV 9 hk h2)
   exact ⟨y, h4, h3, hy⟩
  have hne : ∀ i, i < len → ∃ y : Option α, ∃ z, y = some z ∧ (∀ j, j < P.cellsOf e → W.cell? ((x.add (i * P.cellsOf e)).add j) = (c z)[j]?) ∧ (c z).length = P.cellsOf e ∧ p z := fun i hi => by
   obtain ⟨y, h1⟩ := key i hi; exact ⟨some y, y, rfl, h1⟩
  obtain ⟨f, hfy⟩ := Deep.choose_lt hne
  have hex : ∀ o ∈ (List.range len).map f, ∃ z, o = some z ∧ p z := fun o ho => by
   obtain ⟨i, hi, rfl⟩ := List.mem_map.1 ho
   obtain ⟨z, h1, _, _, h4⟩ := hfy i (List.mem_range.1 hi)
   exact ⟨z, h1, h4⟩
  obtain ⟨L, hL, hLp⟩ := A7 hex
  have hlen : L.length = len := by
   have := congrArg List.length hL
   simpa using this.symm
  refine ⟨some x, cap, L, by rw [hlen], by omega, by omega, hLp, fun h0 => ?_⟩
  obtain ⟨b, off, spot⟩ := x
  have hg : ∀ i, (hi : i < L.length) → f i = some L[i] := fun i hi => by
   have h5 : ((List.range len).map f)[i]? = (L.map some)[i]? := by rw [hL]
   rw [df, df, ig (by omega), am hi] at h5
   simpa using h5
  have hcell : ∀ i j, (hi : i < L.length) → j < P.cellsOf e → W.cell? (((⟨b, off, spot⟩ : Addr).add (i * P.cellsOf e)).add j) = (c L[i])[j]? ∧ (c L[i]).length = P.cellsOf e := fun i j hi hj => by
   obtain ⟨z, h1, h2, h3, _⟩ := hfy i (by omega)
   have h6 := hg i hi
   rw [h1] at h6
   cases h6
   exact ⟨h2 j hj, h3⟩
  have hspot : spot = none := by
   obtain ⟨h7, h8⟩ := hcell 0 0 h0 hs
   rw [am (by omega)] at h7
   simpa [Addr.add] using World.cell?_spot h7
  subst hspot
  refine ⟨b, off, U, fun k v hv => ?_⟩
  have hcl : ∀ z ∈ L, (c z).length = P.cellsOf e := fun z hz => by
   obtain ⟨i, hi, rfl⟩ := gl hz
   exact (hcell i 0 hi hs).2
  have main : ∀ (L : List α) (o : Nat), (∀ i j, (hi : i < L.length) → j < P.cellsOf e → W.cell? ⟨b, o + (i * P.cellsOf e + j), none⟩ = (c L[i])[j]?) → (∀ z ∈ L, (c z).length = P.cellsOf e) → ∀ k v, (aN c L)[k]? = some v → W.cell? ⟨b, o + k, none⟩ = some v := by
   intro L
   induction L with
   | nil => intro o _ _ k v hv; simp [aN] at hv
   | cons z L ih =>
    intro o hc1 hc2 k v hv
    have hz := hc2 z (.head _)
    rw [xS] at hv
    rcases dt k (P.cellsOf e) with hk1 | hk1
    ·rw [dp (by omega)] at hv
     have := hc1 0 k (by simp) hk1
     rw [gj, cg] at this
     rw [this]; exact hv
    ·rw [er (by omega), hz] at hv
     have h9 := ih (o + P.cellsOf e) (fun i j hi hj => by
      have := hc1 (i + 1) j (by simpa using hi) hj
      rw [jk, Nat.one_mul] at this
      rw [show o + P.cellsOf e + (i * P.cellsOf e + j) = o + (i * P.cellsOf e + P.cellsOf e + j) by omega]
      exact this) (fun y hy => hc2 y (.tail _ hy)) (k - P.cellsOf e) v hv
     rw [show o + P.cellsOf e + (k - P.cellsOf e) = o + k by omega] at h9
     exact h9
  refine main L off (fun i j hi hj => ?_) hcl k v hv
  have := (hcell i j hi hj).1
  rw [xF, xF] at this
  rw [show off + (i * P.cellsOf e + j) = off + i * P.cellsOf e + j by omega]
  exact this
end
end Go.VV
namespace Go.VV
open Go
end Go.VV
namespace Go.VV
open Go Go.RowKit
section
variable {P : AL} {Γ : dQ} {e : bB} {H : aF} {d : AD} {ty : AJ} {pos : String} {af : AG} {g : Option (Nat × Bool)}
def aK.seg {w : AI} {b off : Nat} {L l : AA} (h : aK w b off L) (k n : Nat) (hs : spine ((L.drop k).take n) = some l) : aK w b (off + k) l := fun j v hv => by
 rw [← Uy hs, fe] at hv
 split at hv
 ·rw [ee] at hv
  rw [eh]; exact h _ _ hv
 ·cases hv
def uY {w0 : AI} {ms : AE} {b : Nat} {l l' : AA} {t : AJ} {fr : Nat × Nat} (hm : (b, Obj.cells l.toArray t fr) ∈ H) (k n : Nat) (hs : spine ((l.drop k).take n) = some l') : ∀ w, St w0 ms H w → aK w b k l' := fun w hw => by
 have := (aH (H := H) hm w hw).seg k n hs
 rwa [cg] at this
def vN {t : AJ} {x y : AK} {T s by_ : Nat} {v u : AH} {n m : Nat} {xs ys : AA} {G A : aF} {ts : Array AJ}
  (hx : ev e x = v) (hy : ev e y = u) (hts : ts = #[t, t]) (hp : wV Γ.P t = some (T, s, by_)) (hv : bM T s v n xs G)
  (hs : ∀ w, St Γ.w0 Γ.ms (A ++ G) w → uB w s u m ys) (h1 : fL ys = true) (hlen : n + m ≤ 140737488355328) (hb : (n + m) * by_ ≤ 140737488355328) :
  dZ Γ ⟨d, .call ⟨.builtin .append, #[x, y], ts⟩, ty, pos, af, g⟩ e (A ++ G) (fun v' H' => ∃ G', bM T s v' (n + m) (xs ++ ys) G' ∧ (v' = .slice none 0 0 → n = 0 ∧ m = 0) ∧ H' = G' ++ A) := by
 have key := mO (Γ := Γ) (e := e) (d := d) (ty := ty) (pos := pos) (af := af) (g := g) (A := A) (R := []) hx hy hts hp hv (fun w hw => hs w (by simpa using hw)) h1 hlen hb
 intro w hw
 refine tX (key w (by simpa using hw)) ?_
 rintro v' w' ⟨H', h2, G', h3, h4, rfl⟩
 exact ⟨G' ++ A, by simpa using h2, G', h3, h4, U⟩
def bM.as {T s n n' : Nat} {v : AH} {xs xs' : AA} {G : aF} (h : bM T s v n xs G) (hn : n = n') (hx : xs = xs') : bM T s v n' xs' G := by subst hn hx; exact h
def bM.full {T s : Nat} {v : AH} {n : Nat} {xs : AA} {G : aF} (h : bM T s v n xs G) (hn : n ≠ 0) :
  ∃ b cap sp, v = .slice (some ⟨b, 0, none⟩) n cap ∧ G = [(b, J (xs ++ sp) T)] ∧ (xs ++ sp).length = cap * s ∧ n ≤ cap ∧ cap ≤ maxLen := by
 cases h with
 | nil => exact absurd rfl hn
 | row b _ cap _ sp h1 h2 h3 h4 => exact ⟨b, cap, sp, rfl, rfl, h2, h4, h3⟩
def bM.alt {T s : Nat} {v : AH} {n : Nat} {xs : AA} {G : aF} (h : bM T s v n xs G) :
  (v = .slice none 0 0 ∧ n = 0 ∧ xs = [] ∧ G = []) ∨ ∃ b cap sp, v = .slice (some ⟨b, 0, none⟩) n cap ∧ G = [(b, J (xs ++ sp) T)] ∧ (xs ++ sp).length = cap * s ∧ n ≤ cap ∧ cap ≤ maxLen := by
 cases h with
 | nil => exact .inl ⟨rfl, rfl, rfl, rfl⟩
 | row b _ cap _ sp h1 h2 h3 h4 => exact .inr ⟨b, cap, sp, rfl, rfl, h2, h4, h3⟩
def bM.all_ {α : Type} {c : α → AA} {T s b cap : Nat} {l : List α} {sp : AA} (hc : ∀ x, (c x).length = s) (h2 : (aN c l ++ sp).length = cap * s) (h4 : l.length ≤ cap) (h3 : cap ≤ maxLen) :
  bM T s (.slice (some ⟨b, 0, none⟩) l.length cap) l.length (aN c l) [(b, J (aN c l ++ sp) T)] :=
 .row b _ cap _ sp (gM hc l) h2 h3 h4
def Vf {α : Type} {c : α → AA} (h : ∀ x, fL (c x) = true) (l : List α) : fL (aN c l) = true := by
 refine List.all_eq_true.2 fun x hx => ?_
 unfold aN at hx
 obtain ⟨y, _, hy⟩ := List.mem_flatMap.1 hx
 exact List.all_eq_true.1 (h y) x hy
def St.lentV {w0 w : AI} {ms : AE} {F G : aF} (h : St w0 ms (F ++ G) w) : St w (F.map (·.1)) F w := by
 have hn := h.nodup
 rw [bz, ed] at hn
 exact ⟨U, U, U, bi _, fun _ _ _ => U, hn.1, fun x hx => .inl (List.mem_map.2 ⟨x, hx, U⟩), fun x hx => h.holds x (g9 _ hx)⟩
def St.lentA {w0 w : AI} {ms : AE} {F : aF} (h : St w0 ms F w) : St w (F.map (·.1)) F w := by
 have : St w0 ms (F ++ []) w := by simpa using h
 exact this.lentV
section
variable {α : Type} {c : α → AA} {s : Nat} (hc : ∀ x, (c x).length = s)
include hc
def aQf (l : List α) (j : Nat) : (aN c l).drop (j * s) = aN c (l.drop j) := by
 rcases dt j l.length with hj | hj
 ·have h1 : aN c l = aN c (l.take j) ++ aN c (l.drop j) := by rw [← vJ, dz]
  have h2 : (aN c (l.take j)).length = j * s := by rw [gM hc, f0, fv (by omega)]
  rw [h1, ← h2, f4]
 ·rw [d8 hj, d8 (by rw [gM hc]; exact gc _ hj)]
  rfl
def aGR {w : AI} {b off j cp : Nat} {l : List α} {sp : AA} (hr : aK w b off (aN c l ++ sp)) (hj : j ≤ l.length) (hcp : l.length ≤ cp) : aK w b (mU off j s cp) (aN c (l.drop j)) := by
 have h1 := (hr.left).cut (l := j) (k := l.length - j) (s := s) (c := cp) (by omega)
 rw [aQf hc] at h1
 have h2 : (aN c (l.drop j)).length = (l.length - j) * s := by rw [gM hc, gz]
 rw [← h2, dq] at h1
 exact h1
def aNv (l : List α) (sp zs : AA) {j : Nat} (_hj : j ≤ l.length) : ∃ sp', aV (aV (aN c l ++ sp) (0 * s) (aN c (l.drop j))) ((l.length - j) * s) zs = aN c (l.drop j) ++ sp' := by
 have h2 : (aN c (l.drop j)).length = (l.length - j) * s := by rw [gM hc, gz]
 rw [gj]
 unfold aV
 rw [gi, bq, cg]
 refine ⟨zs ++ ((aN c l ++ sp).drop (aN c (l.drop j)).length).drop zs.length, ?_⟩
 rw [← h2, ip, ← bw, f4, de]
def Qz (l : List α) (sp : AA) (j : Nat) : 0 * s + (aN c (l.drop j)).length ≤ (aN c l ++ sp).length := by
 rw [gM hc, ei, gM hc, gz, gj, cg]
 exact ij (gc _ (by omega)) (Nat.le_add_right _ _)
end
def aCw (b off s n c : Nat) : Value.slice (some ⟨b, mU off 0 s c, none⟩) (n - 0) (c - 0) = .slice (some ⟨b, off, none⟩) n c := by
 simp only [mU, gj, gr, ite_self, Nat.sub_zero]
end
end Go.VV
namespace Go.VV
open Go
section
variable {Γ : dQ} {e : bB} {A : aF} {d : AD} {t : AJ} {pos : String} {af : AG} {g : Option (Nat × Bool)}
def gY {f : Nat} {l : AF} {ts : Array AJ} {vs : AA} (hc : gR Γ.P f = true) (hv : lI e l = some vs) {R : AH → aF → Prop}
  (hf : ∀ w, St Γ.w0 Γ.ms A w → aG Γ.P f vs w (A.map (·.1)) R) :
  dZ Γ ⟨d, .call ⟨.value (.func f), l.toArray, ts⟩, t, pos, af, g⟩ e A (fun v H2 => R v H2) := by
 intro w hw
 have key := kM (Γ := Γ) (e := e) (d := d) (t := t) (pos := pos) (af := af) (g := g) (ts := ts) (A := A) (G := []) (A.map (·.1)) hc hv (R := R) (fun _ hb => jS hb) (fun w hw => hf w (by simpa using hw))
 refine tX (key w (by simpa using hw)) ?_
 rintro v w' ⟨H', h2, G', h3, rfl⟩
 exact ⟨G', by simpa using h2, h3⟩
end
def Gf {α : Type} (w : AI) (c : α → AA) (a : AC) (l : List α) : Prop := (a = none ∧ l = []) ∨ ∃ b off, a = some ⟨b, off, none⟩ ∧ aK w b off (aN c l)
def Gf.later0 {α : Type} {w0 w : AI} {H : aF} {c : α → AA} {a : AC} {l : List α} (h : Gf w0 c a l) (hw : St w0 [] H w) : Gf w c a l := by
 rcases h with h | ⟨b, off, h1, h2⟩
 ·exact .inl h
 ·exact .inr ⟨b, off, h1, cG h2 (by simp) w hw⟩
def bM.slw {α : Type} {c : α → AA} {T s n : Nat} {v : AH} {G : aF} {l : List α} (h : bM T s v n (aN c l) G) (hc : ∀ x, (c x).length = s) (hs : 0 < s) :
  ∃ a cp, v = .slice a n cp ∧ l.length = n ∧ n ≤ cp ∧ (cp = 0 → n = 0) ∧ (a = none → cp = 0) ∧ ∀ w : AI, (∀ x ∈ G, w.heap[x.1]? = some x.2) → Gf w c a l := by
 have hl := h.len
 rw [gM hc] at hl
 have hn : l.length = n := jp hs hl
 generalize hx : aN c l = xs at h
 cases h with
 | nil => exact ⟨none, 0, rfl, hn, bi _, fun _ => rfl, fun _ => rfl, fun _ _ => .inl ⟨rfl, dg hn⟩⟩
 | row b _ cap _ sp h1 h2 h3 h4 =>
  refine ⟨_, cap, U, hn, h4, fun h => by omega, fun h => by (cases h), fun w hw => .inr ⟨b, 0, U, ?_⟩⟩
  have := aK.all (w := w) (b := b) (hw _ (.head _))
  rw [← hx] at this
  exact this.left
def Fg {Γ : dQ} {F : aF} {b : Nat} {l l' : AA} {T : AJ} {fr : Nat × Nat} (hm : (b, Obj.cells l.toArray T fr) ∈ F) (k n : Nat) (hs : spine ((l.drop k).take n) = some l') : ∀ w, kK Γ F w → aK w b k l' :=
 fun w ⟨_, hw, hF⟩ => uY (hF _ hm) k n hs w hw
def RowsIn (G : aF) (b off : Nat) (xs : AA) : Prop := ∀ w : AI, (∀ x ∈ G, w.heap[x.1]? = some x.2) → aK w b off xs
def RowsIn.row {G H : aF} {b off : Nat} {xs : AA} (h : RowsIn G b off xs) (hs : ∀ x ∈ G, x ∈ H) {w0 : AI} {ms : AE} : ∀ w, St w0 ms H w → aK w b off xs :=
 fun w hw => h w fun x hx => hw.holds x (hs x hx)
section
variable {α : Type} {c : α → AA} {s : Nat}
def aK.at {w : AI} {b off : Nat} {l : List α} {i : Nat} {x : α} (h : aK w b off (aN c l)) (hc : ∀ x, (c x).length = s) (hi : l[i]? = some x) (j : Nat) {v : AH} (hv : (c x)[j]? = some v) :
  w.cell? ⟨b, off + i * s + j, none⟩ = some v := aK.nth' hc h hi j v hv
def aK.part {w : AI} {b off : Nat} {l : List α} {i : Nat} {x : α} (h : aK w b off (aN c l)) (hc : ∀ x, (c x).length = s) (hi : l[i]? = some x) (j n : Nat) {v : AA} (hv : spine (((c x).drop j).take n) = some v) :
  aK w b (off + i * s + j) v := (aK.nth' hc h hi).seg j n hv
def Ep {l : List α} {i : Nat} {x : α} (h : l[i]? = some x) : (l.take (i + 1)) = l.take i ++ [x] := by
 rw [fk, h]; rfl
def Pz {l : List α} {i : Nat} (h : i < l.length) : l[i]? = some l[i] := am h
end
def Qj {P : AL} {e : bB} {d : AD} {ty : AJ} {pos : String} {af : AG} {g : Option (Nat × Bool)} {t : AJ} {x hi : AK} {a : AC} {n c el s : Nat} {jh : Int} (h : Nat)
  (hx : bC (ev e x) = some (.slice a n c)) (hu : rE P t = some (el, s)) (hhi : nX e (some hi) = some (some jh)) (hh : jh = (h : Int)) (h2 : h ≤ c) :
  dT P e ⟨d, .slice t x none (some hi) none, ty, pos, af, g⟩ = some (.slice a h c) := by
 obtain ⟨g1, g2⟩ := wZ hu
 have hx := bT hx
 refine jA ?_ U
 have hb := K9 (e := e) (lo := none) (hi := some hi) (isS := true) (n := n) (c := c) (jl := none) (jh := some jh) 0 h rfl hhi rfl (by simpa using hh) (av _) h2
 rw [i7] at hb
 simp only [execOp, hx, Instr.sliceAt, Instr.slice, bind_assoc, mS g1, i7, hb, qQ, uZ g2]
 have : (if c = 0 then a else a.map (·.add (0 * s))) = a := by
  split
  ·rfl
  ·cases a <;> simp [Addr.add]
 rw [this]; rfl
def bs (l : List UInt8) : ByteArray := ⟨⟨l⟩⟩
def aJy (l : List UInt8) : (bs l).toList = l := by rw [ByteArray.toList_eq]; rfl
def aO9 (l : List UInt8) : strOfNums (l.map fun b => (b.toNat : Int)) = bs l := by
 unfold strOfNums bs
 congr 1
 have : ((fun n : Int => UInt8.ofNat n.toNat) ∘ fun b : UInt8 => (b.toNat : Int)) = id := by funext b; simp
 rw [jy, this, List.map_id]
section
variable {P : AL} {e : bB} {d : AD} {ty t u : AJ} {pos : String} {af : AG} {g : Option (Nat × Bool)} {x y : AK} {a b : List UInt8}
def aO3 (hx : bC (ev e x) = some (.string (bs a))) (hy : bC (ev e y) = some (.string (bs b))) :
  dT P e ⟨d, .binOp .eql t x y u, ty, pos, af, g⟩ = some (.bool (a == b)) := by
 refine jA ?_ U
 simp [execOp, eqGuard, bT hx, bT hy, binOp, Op.stringOp, aJy, eR, bind, Sem.bind, pure]
end
section
variable {Γ : dQ} {e : bB} {H : aF} {d : AD} {ty t dst el : AJ} {pos : String} {af : AG} {g : Option (Nat × Bool)} {x : AK}
def Z6 (P : AL) (t : AJ) : Bool := match P.underlying t with
 | some (.slice el) => (match P.underlying el with
  | some (.int .u8) => true
  | _ => false)
 | _ => false
def Q5 (P : AL) (t : AJ) : Bool := match P.underlying t with
 | some .string => true
 | _ => false
def aET {b off n c : Nat} {l : List UInt8} (hx : bC (ev e x) = some (.slice (some ⟨b, off, none⟩) n c)) (hs : Z6 Γ.P t = true) (hd : Q5 Γ.P dst = true) (hn : l.length = n)
  (hr : ∀ w, St Γ.w0 Γ.ms H w → aK w b off (l.map fun c => .int .u8 c.toNat)) :
  dZ Γ ⟨d, .convert t dst x, ty, pos, af, g⟩ e H (fun v H' => v = .string (bs l) ∧ H' = H) := by
 intro w hw
 have hx := bT hx
 unfold Z6 at hs
 split at hs <;> try cases hs
 rename_i el h1
 split at hs <;> try cases hs
 rename_i h2
 unfold Q5 at hd
 split at hd <;> try cases hd
 rename_i h3
 have key := run_convert_bytes_arg (P := Γ.P) w t el h1 h2 b off n c (l.map fun c => (c.toNat : Int)) (by simpa using hn) (fun i hi => by
  have hi' : i < l.length := by omega
  have := hr w hw i (.int .u8 l[i].toNat) (by simp [hi'])
  simpa [List.getD, hi'] using this) dst h3
 rw [aO9] at key
 refine gX (v := .string (bs l)) (w' := w) ?_ ⟨_, hw, U, U⟩
 simp only [execOp, hx, ay, key, au, ca]
end
def aEL {w : AI} {b off : Nat} {l : AA} {T : AJ} {fr : Nat × Nat} (h : w.heap[b]? = some (.cells l.toArray T fr)) (v : AH) : (w.setCell ⟨b, off, none⟩ v).heap[b]? = some (.cells (l.set off v).toArray T fr) := by
 unfold World.setCell
 simp only
 rw [gu, ag rfl, h]
 simp
def aBY {w : AI} {a : Addr} {v : AH} (k : Nat) (hk : k ≠ a.block) : (w.setCell a v).heap[k]? = w.heap[k]? := by
 unfold World.setCell
 simp only
 rw [gu, ae (Ne.symm hk)]
def St.setCell {w0 w : AI} {ms : AE} {R : aF} {b off : Nat} {l : AA} {T : AJ} (h : St w0 ms ((b, J l T) :: R) w) (v : AH) : St w0 ms ((b, J (l.set off v) T) :: R) (w.setCell ⟨b, off, none⟩ v) :=
 h.turn rfl rfl rfl (by simp) (fun k hk => aBY k hk) (aEL (h.holds (b, _) (.head _)) v)
def Ob {w : AI} {b off : Nat} {l : AA} {T : AJ} (h : w.heap[b]? = some (J l T)) : w.frozen? ⟨b, off, none⟩ = false := by
 simp [World.frozen?, h]
def St.after {w0 w w' : AI} {ms : AE} {A B : aF} (h : St w0 ms A w) (h' : St w (A.map (·.1)) B w') : St w0 ms B w' := by
 have h1 : St w0 ms (A ++ []) w := by simpa using h
 have := h1.call (F := A) (ms2 := A.map (·.1)) (fun b hb => jS hb) h'
 simpa using this
end Go.VV
namespace Go.VV
open Go Go.RowKit
section
variable {Γ : dQ} {e : bB} {H : aF} {d : AD} {ty : AJ} {pos : String} {af : AG} {g : Option (Nat × Bool)}
def D3 {t : AJ} {x y : AK} {T s by_ : Nat} {a a2 : AC} {n cp n2 c2 : Nat} {ts : Array AJ}
  (hx : bC (ev e x) = some (.slice a n cp)) (hy : bC (ev e y) = some (.slice a2 n2 c2)) (h0 : n2 = 0) (hts : ts = #[t, t]) (hp : wV Γ.P t = some (T, s, by_)) (hn : n ≤ cp) :
  dZ Γ ⟨d, .call ⟨.builtin .append, #[x, y], ts⟩, ty, pos, af, g⟩ e H (fun v' H' => v' = .slice a n cp ∧ H' = H) := by
 intro w hw
 subst hts h0
 have hx := bT hx
 have hy := bT hy
 unfold wV at hp
 split at hp <;> try cases hp
 rename_i el hu
 split at hp <;> try cases hp
 rename_i ti hti
 split at hp <;> try cases hp
 rename_i z hz
 split at hp <;> try cases hp
 have key : (Builtin.append_ #[t, t] ty #[.slice a n cp, .slice a2 0 c2]).run Γ.P w = .ok (.slice a n cp) w := by
  cases a <;> cases a2 <;> simp [Builtin.append_, run_underlying hu, sizeOf, typeInfo, hti, Builtin.lenOf, Builtin.firstCells, hn, storeCells, loadCells, loadCellsFrom]
 refine gX (v := .slice a n cp) (w' := w) ?_ ⟨_, hw, U, U⟩
 simp only [execOp, resolve, ay, ca, au, invoke, builtin, dj, cu, dk, hx, hy, key]
end
section
variable {Γ : dQ} {e : bB} {H : aF} {d : AD} {ty : AJ} {pos : String} {af : AG} {g : Option (Nat × Bool)}
def aES (P : AL) (t : AJ) : Bool := match P.underlying t with
 | some (.int _) => true
 | _ => false
end
section
variable {P : AL} {e : bB} {d : AD} {ty t : AJ} {pos : String} {af : AG} {g : Option (Nat × Bool)} {x : AK}
def aAP {a : AC} {n c : Nat} (hx : bC (ev e x) = some (.slice a n c)) (hu : Sm P t = true) :
  dT P e ⟨d, .call ⟨.builtin .cap, #[x], #[t]⟩, ty, pos, af, g⟩ = some (.int .i64 c) := by
 refine jA ?_ U
 have hx := bT hx
 unfold Sm at hu
 split at hu
 ·rename_i el h1
  simp only [execOp, resolve, dj, cu, dk, hx, qQ, invoke, builtin, Builtin.cap_, bind_assoc, dx, fj, mS h1]
  rfl
 ·cases hu
end
def gE {A B vs : AA} {o n : Nat} (ho : o = A.length + n) (_h : n + vs.length ≤ B.length) : aV (A ++ B) o vs = A ++ aV B n vs := by
 subst ho
 unfold aV
 rw [jz, i2, dm (by omega), d8 (by omega), bq, show A.length + n - A.length = n by omega, show A.length + n + vs.length - A.length = n + vs.length by omega]
 simp
def mD {A B vs : AA} {o : Nat} (h : o + vs.length ≤ A.length) : aV (A ++ B) o vs = aV A o vs ++ B := by
 unfold aV
 rw [ji (by omega), jj (by omega)]
 simp
def iO (l : AB) (o : Nat) (vs : AB) : AB := l.take o ++ vs ++ l.drop (o + vs.length)
def aPG {l vs : AB} {o : Nat} (h : o + vs.length ≤ l.length) : (iO l o vs).length = l.length := by
 unfold iO; simp; omega
def Ee (k : AM) (l vs : AB) (o : Nat) : aV (l.map (.int k)) o (vs.map (.int k)) = (iO l o vs).map (.int k) := by
 unfold aV iO; simp [fz, ie]
def aBV {l : AB} {o : Nat} (h : o < l.length) (x : Int) : iO l o [x] = l.set o x := by
 unfold iO
 rw [d5, ag h]
 simp
def vG {l : AB} {o : Nat} (k : AM) (h : o < l.length) (x : Int) : aV (l.map (.int k)) o [.int k x] = (l.set o x).map (.int k) := by
 have := Ee k l [x] o
 rw [aBV h] at this
 exact this
def gJ {l : AB} {k : AM} {j : Nat} (h : j < l.length) : (l.map (Value.int k))[j]? = some (.int k (l.getD j 0)) := by
 rw [df, am h, dd, am h]; rfl
def lM {A B : AA} {o : Nat} {v : AH} (h : A[o]? = some v) : (A ++ B)[o]? = some v := by
 have hl : o < A.length := (List.getElem?_eq_some_iff.1 h).1
 rw [dp hl]; exact h
def iH {A B : AA} {o n : Nat} {v : AH} (ho : o = A.length + n) (h : B[n]? = some v) : (A ++ B)[o]? = some v := by
 subst ho
 rw [er (by omega)]
 simpa using h
def aK.right {w : AI} {b off n : Nat} {A B : AA} (h : aK w b off (A ++ B)) (hn : n = off + A.length) : aK w b n B := fun j v hv => by
 subst hn
 have := h (A.length + j) v (iH rfl hv)
 rwa [← eh] at this
section
variable {Γ : dQ} {e : bB} {H : aF} {d : AD} {ty : AJ} {pos : String} {af : AG} {g : Option (Nat × Bool)}
def bF {t : AJ} {x y : AK} {b off : Nat} {v : AH} {vs l l' : AA} {T : AJ} (i : Nat)
  (hx : bC (ev e x) = some (.pointer (some ⟨b, off, none⟩))) (hy : bC (ev e y) = some v) (hv : Ay v = some vs) (hn : kU Γ.P t = some vs.length) (h1 : fL vs = true)
  (hi : H[i]? = some (b, J l T)) (hl : off + vs.length ≤ l.length) (hp : aV l off vs = l') :
  dZ Γ ⟨d, .store t x y, ty, pos, af, g⟩ e H (fun u H' => u = undef ∧ H' = H.set i (b, J l' T)) := by
 subst hp
 exact hQ i hx hy hv hn h1 hi hl
end
end Go.VV
namespace Go.VV
open Go Go.ChangeShapes Go.WideShapes Go.ChangeAt Go.RowKit
inductive KD where
 | int (k : AM)
 | bool
 | str
 | ints (k : AM)
 | rows (ks : List CK)
section
variable (P : AL)
def aB1 (e : AJ) : Option KD := match P.underlying e with
 | some (.int k) => bif Nat.beq (P.cellsOf e) 1 then some (.ints k) else none
 | _ => match Ew P 9 e with
  | some ks => bif Nat.beq (P.cellsOf e) ks.length && Nat.blt 0 ks.length then some (.rows ks) else none
  | none => none
end
section
variable {Γ : dQ} {e : bB} {H : aF} {d : AD} {ty : AJ} {pos : String} {af : AG} {g : Option (Nat × Bool)}
def aMH {t tn : AJ} {x y : AK} {T s by_ : Nat} {n : Nat} {kk : AM} {ts : Array AJ}
  (hx : bC (ev e x) = some (.slice none 0 0)) (hy : bC (ev e y) = some (.int kk n)) (hts : ts = #[t, tn]) (htn : aES Γ.P tn = true) (hp : wV Γ.P t = some (T, s, by_))
  (h0 : 0 < n) (hlen : n ≤ 1000000) (hb : by_ ≤ 1000) :
  dZ Γ ⟨d, .call ⟨.builtin .append, #[x, y], ts⟩, ty, pos, af, g⟩ e H (fun v' H' => ∃ b' cap sp, v' = .slice (some ⟨b', 0, none⟩) n cap ∧ H' = (b', J sp T) :: H ∧ sp.length = cap * s ∧ n ≤ cap ∧ cap ≤ maxLen) := by
 intro w hw
 subst hts
 have hx := bT hx
 have hy := bT hy
 unfold aES at htn
 split at htn <;> try cases htn
 rename_i kn hkn
 unfold wV at hp
 split at hp <;> try cases hp
 rename_i el hu
 split at hp <;> try cases hp
 rename_i ti hti
 split at hp <;> try cases hp
 rename_i z hz
 split at hp <;> try cases hp
 rename_i hzs
 obtain ⟨hz1, hz2⟩ := hzs
 have h48 : n * ti.bytes ≤ 281474976710656 := by
  have : n * ti.bytes ≤ 1000000 * 1000 := ki hlen hb
  omega
 have key := Lib.run_append_nil_zeros (P := Γ.P) w t tn ty T ti z kk kn hu hkn hti hz n h0 hz2 (by omega) h48
 have hge := grownCap_ge w n 0 T
 have hcm : grownCap w n 0 T ≤ maxLen := grownCap_le_maxLen w n 0 T (by unfold maxLen; omega)
 generalize hZ : (Builtin.zeroCells z.cells n ++ Builtin.zeroCells z.cells (grownCap w n 0 T - n)) = Z at key
 have hzl : Z.size = grownCap w n 0 T * ti.size := by
  rw [← hZ]
  simp only [Array.size_append, size_zeroCells, hz1, ← jk]
  congr 1
  omega
 obtain ⟨Z⟩ := Z
 refine gX (v := .slice (some ⟨w.heap.size, 0, none⟩) n (grownCap w n 0 T)) (w' := w.drew.alloc (J Z T)) ?_ ⟨_, hw.drew.alloc _, w.heap.size, grownCap w n 0 T, Z, U, U, by simpa using hzl, hge, hcm⟩
 simp only [execOp, resolve, ay, ca, au, invoke, builtin, dj, cu, dk, hx, hy, key]
end
end Go.VV
namespace Go.VV
open Go Go.RowKit
def tO {n : Int} (h1 : -9223372036854775808 ≤ n) (h2 : n ≤ 9223372036854775807) : Value.int .i64 (IntKind.i64.wrap n) = .int .i64 n := congrArg _ (bY h1 h2)
def Do {n : Int} (h1 : 0 ≤ n) (h2 : n < 256) : Value.int .u8 (IntKind.u8.wrap n) = .int .u8 n := congrArg _ (Ja h1 h2)
def Ie {n : Int} (h1 : 0 ≤ n) (h2 : n < 65536) : Value.int .u16 (IntKind.u16.wrap n) = .int .u16 n := congrArg _ (tW h1 h2)
def Bv {n : Int} (h1 : 0 ≤ n) (h2 : n < 18446744073709551616) : Value.int .u64 (IntKind.u64.wrap n) = .int .u64 n := congrArg _ (wB h1 h2)
def yC (n : Int) : Value.int .u8 (IntKind.u8.wrap n) = .int .u8 (n % 256) := congrArg _ (nQ n)
def Gy (n : Int) : Value.int .u16 (IntKind.u16.wrap n) = .int .u16 (n % 65536) := congrArg _ (pR n)
def Mk (n : Int) : Value.int .u64 (IntKind.u64.wrap n) = .int .u64 (n % 18446744073709551616) := congrArg _ (H5 n)
def aQR {k : AM} {a b : Int} (h : 0 ≤ a) : Value.int k (a.tmod b) = .int k (a % b) := congrArg _ (cn h)
def nB : AM → Int
 | .u8 => 256
 | .u16 => 65536
 | .u64 => 18446744073709551616
 | .i64 => 9223372036854775808
 | _ => 0
def Ng {k : AM} {n : Int} (h1 : 0 ≤ n) (h2 : n < nB k) : k.wrap n = n := by
 cases k <;> simp only [nB] at h2 <;> first | omega | exact Ja h1 h2 | exact tW h1 h2 | exact wB h1 h2 | exact bY (by omega) (by omega)
def Qn {k : AM} {n : Int} (h1 : 0 ≤ n) (h2 : n < nB k) : (BitVec.ofInt k.bits n).toNat = n.toNat := by
 have : n < 2 ^ k.bits := by cases k <;> simp only [nB] at h2 <;> simp only [IntKind.bits] <;> omega
 rw [f5, Int.emod_eq_of_lt h1 (by simpa using this)]
def aKO {k : AM} {a b : Int} (h1 : 0 ≤ a) (h2 : a < nB k) (hb : 0 < b) : Value.int k (k.wrap (a.tdiv b)) = .int k (a / b) := by
 rw [jq h1, Ng (kb h1 (by omega)) (Int.lt_of_le_of_lt (j1 _ h1) h2)]
def qC {k : AM} {a n : Int} (d : Int) (h : 2 ^ min n.toNat k.bits = d) (hd : 0 < d) : Value.int k (shr k a n) = .int k (a / d) := by
 unfold shr
 rw [h, et _ (by omega)]
def zO {k : AM} {a n : Int} (d : Int) (h : 2 ^ min n.toNat k.bits = d) : shl k a n = k.wrap (a * d) := by unfold shl; rw [h]
def Bb {k : AM} {a n : Int} (d : Int) (h : 2 ^ min n.toNat k.bits = d) (h1 : 0 ≤ a * d) (h2 : a * d < nB k) : Value.int k (shl k a n) = .int k (a * d) := by rw [zO d h, Ng h1 h2]
def Xt {a n : Int} (d : Int) (h : 2 ^ min n.toNat 8 = d) : Value.int .u8 (shl .u8 a n) = .int .u8 (a * d % 256) := by rw [zO d h, nQ]
def aMK {a n : Int} (d : Int) (h : 2 ^ min n.toNat 16 = d) : Value.int .u16 (shl .u16 a n) = .int .u16 (a * d % 65536) := by rw [zO d h, pR]
def aDe {k : AM} {a b : Int} (h1 : 0 ≤ a) (h2 : a < nB k) (h3 : 0 ≤ b) (h4 : b < nB k) : aQ k a b = ((a.toNat &&& b.toNat : Nat) : Int) := by
 unfold aQ
 rw [ia, Qn h1 h2, Qn h3 h4]
 refine Ng (im _) ?_
 have := Nat.and_le_left (n := a.toNat) (m := b.toNat)
 omega
def F2 {k : AM} {a b : Int} (h1 : 0 ≤ a) (h2 : a < nB k) (h3 : 0 ≤ b) (h4 : b < nB k) : bL k a b = ((a.toNat ||| b.toNat : Nat) : Int) := by
 unfold bL
 rw [BitVec.toNat_or, Qn h1 h2, Qn h3 h4]
 refine Ng (im _) ?_
 have hm : ∃ m : Nat, nB k = ((2 ^ m : Nat) : Int) ∨ nB k = 0 := by
  cases k <;> first | exact ⟨8, .inl rfl⟩ | exact ⟨16, .inl rfl⟩ | exact ⟨64, .inl rfl⟩ | exact ⟨63, .inl rfl⟩ | exact ⟨0, .inr rfl⟩
 obtain ⟨m, hm | hm⟩ := hm
 ·have h5 : a.toNat < 2 ^ m := by rw [hm] at h2; omega
  have h6 : b.toNat < 2 ^ m := by rw [hm] at h4; omega
  have := Nat.or_lt_two_pow h5 h6
  rw [hm]; omega
 ·omega
def aNt {k : AM} {a b : Int} (n : Nat) (d : Int) (hd : ((2 ^ n : Nat) : Int) = d) (hb : b = d - 1) (h1 : 0 ≤ a) (h2 : a < nB k) (h4 : b < nB k) : aQ k a b = a % d := by
 have hp : 0 < (2 : Nat) ^ n := kc n
 rw [aDe h1 h2 (by omega) h4]
 have : b.toNat = 2 ^ n - 1 := by omega
 rw [this, fw, ← hd]
 obtain ⟨m, rfl⟩ : ∃ m : Nat, a = m := ⟨a.toNat, by omega⟩
 simp
def qF {k : AM} {a b : Int} (n : Nat) (d : Int) (hd : ((2 ^ n : Nat) : Int) = d) (hb : b = d - 1) (h1 : 0 ≤ a) (h2 : a < nB k) (h4 : b < nB k) : Value.int k (aQ k a b) = .int k (a % d) := congrArg _ (aNt n d hd hb h1 h2 h4)
def aId {k : AM} {a b : Int} (n : Nat) (hb : ((2 ^ n : Nat) : Int) = b) (h1 : 0 ≤ a) (h2 : a < nB k) (h4 : b < nB k) : aQ k a b = a / b % 2 * b := by
 have hp : 0 < (2 : Nat) ^ n := kc n
 rw [aDe h1 h2 (by omega) h4]
 have hbn : b.toNat = 2 ^ n := by omega
 rw [hbn]
 have key : a.toNat &&& 2 ^ n = (a.toNat / 2 ^ n % 2) * 2 ^ n := by
  apply je
  intro i
  rw [ke, Nat.testBit_two_pow]
  by_cases hi : n = i
  ·subst hi
   simp only [decide_true, iy]
   rw [Nat.testBit_mul_two_pow]
   simp [Nat.testBit_eq_decide_div_mod_eq]
  ·simp only [hi, decide_false, Bool.and_false]
   rw [Nat.testBit_mul_two_pow]
   rcases dt i n with h | h
   ·simp [show ¬ n ≤ i by omega]
   ·rcases Nat.mod_two_eq_zero_or_one (a.toNat / 2 ^ n) with h3 | h3 <;> rw [h3]
    ·simp
    ·obtain ⟨q, hq⟩ : ∃ q, i - n = q + 1 := ⟨i - n - 1, by omega⟩
     rw [hq, Nat.testBit_succ]
     simp
 rw [key]
 obtain ⟨m, rfl⟩ : ∃ m : Nat, a = m := ⟨a.toNat, by omega⟩
 rw [← hb]
 simp
def Bx {k : AM} {a b : Int} (n : Nat) (hb : ((2 ^ n : Nat) : Int) = b) (h1 : 0 ≤ a) (h2 : a < nB k) (h4 : b < nB k) : Value.int k (aQ k a b) = .int k (a / b % 2 * b) := congrArg _ (aId n hb h1 h2 h4)
section
variable {P : AL} {e : bB} {d : AD} {ty t u : AJ} {pos : String} {af : AG} {g : Option (Nat × Bool)} {x y : AK} {k : AM} {a b : Int}
def nL (hx : bC (ev e x) = some (.int k a)) (hy : bC (ev e y) = some (.int k b)) : dT P e ⟨d, .binOp .add t x y u, ty, pos, af, g⟩ = some (.int k (k.wrap (a + b))) := by
 refine jA ?_ U
 simp [execOp, eqGuard, bT hx, bT hy, binOp, Op.intArith, eR, bind, Sem.bind, pure]
def nA (hx : bC (ev e x) = some (.int k a)) (hy : bC (ev e y) = some (.int k b)) : dT P e ⟨d, .binOp .sub t x y u, ty, pos, af, g⟩ = some (.int k (k.wrap (a - b))) := by
 refine jA ?_ U
 simp [execOp, eqGuard, bT hx, bT hy, binOp, Op.intArith, eR, bind, Sem.bind, pure]
def Cu (hx : bC (ev e x) = some (.int k a)) (hy : bC (ev e y) = some (.int k b)) : dT P e ⟨d, .binOp .mul t x y u, ty, pos, af, g⟩ = some (.int k (k.wrap (a * b))) := by
 refine jA ?_ U
 simp [execOp, eqGuard, bT hx, bT hy, binOp, Op.intArith, eR, bind, Sem.bind, pure]
def cM (hx : bC (ev e x) = some (.int k a)) (hy : bC (ev e y) = some (.int k b)) : dT P e ⟨d, .binOp .and t x y u, ty, pos, af, g⟩ = some (.int k (aQ k a b)) := by
 refine jA ?_ U
 simp [execOp, eqGuard, bT hx, bT hy, binOp, Op.intBits, eR, bind, Sem.bind, pure, aQ]
def dM (hx : bC (ev e x) = some (.int k a)) (hy : bC (ev e y) = some (.int k b)) : dT P e ⟨d, .binOp .or t x y u, ty, pos, af, g⟩ = some (.int k (bL k a b)) := by
 refine jA ?_ U
 simp [execOp, eqGuard, bT hx, bT hy, binOp, Op.intBits, eR, bind, Sem.bind, pure, bL]
def Qc (hx : bC (ev e x) = some (.int k a)) (hy : bC (ev e y) = some (.int k b)) : dT P e ⟨d, .binOp .xor t x y u, ty, pos, af, g⟩ = some (.int k (mK k a b)) := by
 refine jA ?_ U
 simp [execOp, eqGuard, bT hx, bT hy, binOp, Op.intBits, eR, bind, Sem.bind, pure, mK]
def zI (hx : bC (ev e x) = some (.int k a)) (hy : bC (ev e y) = some (.int k b)) : dT P e ⟨d, .binOp .andNot t x y u, ty, pos, af, g⟩ = some (.int k (lB k a b)) := by
 refine jA ?_ U
 simp [execOp, eqGuard, bT hx, bT hy, binOp, Op.intBits, eR, bind, Sem.bind, pure, lB]
def A4 (P : AL) (t : AJ) : Option AM := match P.underlying t with
 | some (.int k) => some k
 | _ => none
def gN {src dst : AJ} {k2 : AM} {n : Int} (hx : bC (ev e x) = some (.int k n)) (hs : A4 P src = some k) (hd : A4 P dst = some k2) : dT P e ⟨d, .convert src dst x, ty, pos, af, g⟩ = some (.int k2 (k2.wrap n)) := by
 refine jA ?_ U
 unfold A4 at hs hd
 split at hs <;> try cases hs
 split at hd <;> try cases hd
 rename_i h1 _ h2
 simp only [execOp, convert, bind_assoc, mS h1, mS h2, bT hx]
 rfl
end
end Go.VV
namespace Go.VV
def Uu {a b : Int} (h : (a != b) = true) : a ≠ b := by simpa using h
def Un {a b : Int} (h : (a != b) = false) : a = b := by simpa using h
end Go.VV
namespace Go.VV
def bM.cap_le {T s n m c : Nat} {a : AC} {xs : AA} {G : aF} (h : bM T s (.slice a m c) n xs G) : n ≤ c ∧ m = n := by
 cases h with
 | nil => exact ⟨bi _, rfl⟩
 | row b n cap xs sp hn hc hm hle => exact ⟨hle, rfl⟩
section
variable {Γ : dQ} {e : bB} {H : aF} {d : AD} {t : AJ} {pos : String} {af : AG} {g : Option (Nat × Bool)}
def Fb {x y : AK} {ts : Array AJ} {tx ty el : AJ} {b off dl dc m : Nat} {u : AH} {l l' ys : AA} {T : AJ} (i : Nat)
  (hx : bC (ev e x) = some (.slice (some ⟨b, off, none⟩) dl dc)) (hy : ev e y = u) (hts : ts = #[tx, ty]) (hu : rE Γ.P tx = some (el, 1))
  (hi : H[i]? = some (b, J l T)) (hs : ∀ w, St Γ.w0 Γ.ms H w → uB w 1 u m ys) (h1 : fL ys = true) (hl : off + min m dl ≤ l.length) (hp : aV l off (ys.take (min m dl)) = l') :
  dZ Γ ⟨d, .call ⟨.builtin .copy, #[x, y], ts⟩, t, pos, af, g⟩ e H (fun v H' => v = .int .i64 (min m dl : Nat) ∧ H' = H.set i (b, J l' T)) := by
 subst hp
 exact D1 i hx hy hts hu hi hs h1 hl
end
def sS {off l c : Nat} (h : c ≠ l) : cut1 off l c = off + l := by unfold cut1; rw [ae h]
def aK.dropK {k : AM} {w : AI} {b off : Nat} {l : AB} (h : aK w b off (l.map (.int k))) (n : Nat) : aK w b (off + n) ((l.drop n).map (.int k)) := fun j v hv => by
 have := h (n + j) v (by
  rw [df, ee] at hv
  rw [df]; exact hv)
 rwa [← eh] at this
def aK.takeK {k : AM} {w : AI} {b off : Nat} {l : AB} (h : aK w b off (l.map (.int k))) (n : Nat) : aK w b off ((l.take n).map (.int k)) := fun j v hv => h j v (by
 rw [df, fe] at hv
 split at hv
 ·rw [df]; exact hv
 ·simp at hv)
def aBb {A Z B : AB} {n : Nat} (h : A.length = n) : iO (A ++ Z) n B = A ++ B ++ Z.drop B.length := by
 subst h
 unfold iO
 rw [ip, i2]
 simp
def aC5 {l vs : AB} (h : vs.length = l.length) : iO l 0 vs = vs := by
 unfold iO; simp [h]
def Cq (l : AB) (n j : Nat) : (l.drop n).getD j 0 = l.getD (n + j) 0 := by simp [dd, ee]
def Kg (l : AB) {n j : Nat} (h : j < n) : (l.take n).getD j 0 = l.getD j 0 := by rw [dd, List.getElem?_take_of_lt h, ← dd]
end Go.VV
namespace Go.VV
open Go Go.RowKit
def aQq {l : AB} {i : Nat} (hi : i < l.length) (h : 3 < l.getD i 0) : (l.any fun x => decide (3 < x)) = true := by
 rw [List.any_eq_true]
 refine ⟨l[i], fh hi, ?_⟩
 rw [dd, am hi] at h
 simpa using h
def aJ8 {l : AB} (h : ∀ j, j < l.length → ¬ 3 < l.getD j 0) : (l.any fun x => decide (3 < x)) = false := by
 rw [List.any_eq_false]
 intro x hx
 obtain ⟨i, hi, rfl⟩ := gl hx
 have := h i hi
 rw [dd, am hi] at this
 simpa using this
def aIj {x y : Int} (hx : 0 ≤ x ∧ x < 256) (hy : 0 ≤ y ∧ y < 256) : bL .i64 x (256 * y) = x + 256 * y := by
 rw [F2 hx.1 (by show _ < (9223372036854775808 : Int); omega) (by omega) (by show _ < (9223372036854775808 : Int); omega)]
 have h1 : (256 * y).toNat = 2 ^ 8 * y.toNat := by omega
 rw [h1, kg, ← f6 (by omega)]
 omega
def aE {p : Prop} (h : p := by repeat (first | exact .head _ | refine .tail _ ?_ | refine f8 _ ?_)) : p := h
def bJ {p : Prop} (h : p := by repeat (first | exact jJ.refl _ _ | exact jJ.mix rfl | refine jJ.put rfl ?_ | refine jJ.keep rfl ?_)) : p := h
def r_f {p q : Prop} (h : p) (k : p → q := by first | exact dr | exact dw | exact eq_of_beq | exact ne_of_beq_false | exact Uu | exact Un | exact id) : q := k h
def Ta {p : Prop} (h : p := by first | rfl | exact ai rfl | (simp; done)) : p := h
def iB {p : Prop} (h : p := by first | exact hQ 0 rfl rfl rfl rfl rfl rfl Ta | exact hQ 1 rfl rfl rfl rfl rfl rfl Ta | exact hQ 2 rfl rfl rfl rfl rfl rfl Ta | exact hQ 3 rfl rfl rfl rfl rfl rfl Ta) : p := h
def fY {p : Prop} (h : p := by first | exact aDs rfl rfl | exact aO0 rfl rfl | rfl) : p := h
def I {p : Prop} (h : p := by omega) : p := h
def jQ {p q : Prop} (k : p) (h : p → q := by intro k; simp only [ct, bq, ak, bf]; exact k) : q := h k
def aW {p : Prop} (h : p := by intro h; cases h) : p := h
section
variable {P : AL} {Γ : dQ} {k : fT} {e : bB} {H F : aF} {ops rest : List Oper} {d : AD} {op : Op} {t : AJ} {pos : String} {af : AG} {g : Option (Nat × Bool)}
  {need : AE} {pl : lH} {i : Nat} {S : AI → Prop}
def Rl {v : AH} (h : L1 Γ ops rest k (e.put d v) H) (hl : dT Γ.P e ⟨d, op, t, pos, af, g⟩ = some v := by exact rfl) (hg : eZ ops e ⟨d, op, t, pos, af, g⟩ = true := by exact rfl) (hd : eS Γ.n d = true := by exact rfl) :
    L1 Γ ops (⟨d, op, t, pos, af, g⟩ :: rest) k e H := Kv hl hg hd h
def R1 {u f : Nat} {x : AK} {v : AH} (h : L1 Γ ops rest k (e.put d v) H) (hl : dT Γ.P e ⟨d, .fieldAddr u x f, t, pos, af, g⟩ = some v := by exact Du rfl rfl) (hg : eZ ops e ⟨d, .fieldAddr u x f, t, pos, af, g⟩ = true := by exact rfl) (hd : eS Γ.n d = true := by exact rfl) :
    L1 Γ ops (⟨d, .fieldAddr u x f, t, pos, af, g⟩ :: rest) k e H := Kv hl hg hd h
def RLp (h : L1 Γ ops rest k (e.put d undef) H) (hg : eZ ops e ⟨d, op, t, pos, af, g⟩ = false := by exact rfl) (hd : eS Γ.n d = true := by exact rfl) : L1 Γ ops (⟨d, op, t, pos, af, g⟩ :: rest) k e H := l_p hg hd h
def RD {v : AH} (h : L2 Γ ops S need pl k (e.put d v) H) (ho : ops[i]? = some ⟨d, op, t, pos, af, g⟩ := by exact rfl) (hl : dT Γ.P e ⟨d, op, t, pos, af, g⟩ = some v := by exact rfl) (hv : Cr v = true := by exact rfl)
    (hg : eZ ops e ⟨d, op, t, pos, af, g⟩ = true := by exact rfl) (hd : eS Γ.n d = true := by exact rfl) : L2 Γ ops S need (.step true i pl) k e H := Ds ho hl hv hg hd h
def RDa {v : AH} (h : L2 Γ ops S need pl k (e.put d v) H) (ho : ops[i]? = some ⟨d, op, t, pos, af, g⟩ := by exact rfl) (hl : dT Γ.P e ⟨d, op, t, pos, af, g⟩ = some v := by exact Du rfl rfl) (hv : Cr v = true := by exact rfl)
    (hg : eZ ops e ⟨d, op, t, pos, af, g⟩ = true := by exact rfl) (hd : eS Γ.n d = true := by exact rfl) : L2 Γ ops S need (.step true i pl) k e H := Ds ho hl hv hg hd h
def RLo {T : AJ} {x : AK} {b off : Nat} {l : AA} {U : AJ} {fr : Nat × Nat} {v : AH} (h : L1 Γ ops rest k (e.put d v) H) (hx : bC (ev e x) = some (.pointer (some ⟨b, off, none⟩)) := by exact rfl) (hs : wW Γ.P T = true := by exact rfl)
    (hm : (b, Obj.cells l.toArray U fr) ∈ H := by exact aE) (hv : l[off]? = some v := by exact rfl) (hg : eZ ops e ⟨d, .load T x, t, pos, af, g⟩ = true := by exact rfl) (hd : eS Γ.n d = true := by exact rfl) :
    L1 Γ ops (⟨d, .load T x, t, pos, af, g⟩ :: rest) k e H := M4 (aX hx hs (bN hm hv)) hg hd (by rintro _ _ ⟨rfl, rfl⟩; exact h)
def RDo {T : AJ} {x : AK} {b off : Nat} {l : AA} {U : AJ} {fr : Nat × Nat} {v : AH} (h : L2 Γ ops (kK Γ F) need pl k (e.put d v) H) (ho : ops[i]? = some ⟨d, .load T x, t, pos, af, g⟩ := by exact rfl) (hx : bC (ev e x) = some (.pointer (some ⟨b, off, none⟩)) := by exact rfl) (hs : wW Γ.P T = true := by exact rfl)
    (hm : (b, Obj.cells l.toArray U fr) ∈ F := by exact aE) (hv : l[off]? = some v := by exact rfl) (hg : eZ ops e ⟨d, .load T x, t, pos, af, g⟩ = true := by exact rfl) (hd : eS Γ.n d = true := by exact rfl) :
    L2 Γ ops (kK Γ F) need (.step true i pl) k e H := W3 ho hx hs (eN hm hv) hg hd h
def RLb {b : Bool} (ht : b = true → L1 Γ ops rest k (e.put d (.bool true)) H) (hf : b = false → L1 Γ ops rest k (e.put d (.bool false)) H) (hl : dT Γ.P e ⟨d, op, t, pos, af, g⟩ = some (.bool b) := by exact rfl) (hg : eZ ops e ⟨d, op, t, pos, af, g⟩ = true := by exact rfl) (hd : eS Γ.n d = true := by exact rfl) :
    L1 Γ ops (⟨d, op, t, pos, af, g⟩ :: rest) k e H := l_b hl hg hd ht hf
def aP {f : Nat} {l : AF} {ts : Array AJ} {vs : AA} {u : AH} (hc : gR Γ.P f = true) (hf : ∀ w, St Γ.w0 Γ.ms H w → aG Γ.P f vs w [] (fun v H' => H' = [] ∧ v = u))
    (h : L1 Γ ops rest k (e.put d u) H) (hv : lI e l = some vs := by exact rfl) (hg : eZ ops e ⟨d, .call ⟨.value (.func f), l.toArray, ts⟩, t, pos, af, g⟩ = true := by exact rfl) (hd : eS Γ.n d = true := by exact rfl) :
    L1 Γ ops (⟨d, .call ⟨.value (.func f), l.toArray, ts⟩, t, pos, af, g⟩ :: rest) k e H := M4 (dG hc hv hf) hg hd (by rintro _ _ ⟨rfl, rfl⟩; exact h)
end
structure Wr (q : Prop) : Prop where
  u : q
def G_L {p q : Prop} (k_ : q) (h : Wr q → p := by intro k_; (first | refine R1 ?_ | refine RLo ?_ | refine RLp ?_ | refine Rl ?_); exact k_.u) : p := h ⟨k_⟩
def G_D {p q : Prop} (k_ : q) (h : Wr q → p := by intro k_; (first | refine RDa ?_ | refine RDo ?_ | refine aAx rfl rfl rfl ?_ | refine RD ?_); exact k_.u) : p := h ⟨k_⟩
section
variable {P : AL} {Γ : dQ} {k : fT} {e : bB} {H F L : aF} {ops rest : List Oper} {d : AD} {op : Op} {t : AJ} {pos : String} {af : AG} {g : Option (Nat × Bool)}
  {need : AE} {pl : lH} {i : Nat} {S : AI → Prop} {T F1 : Prop}
def KC {c : AK} {x y : Code} {b : Bool} (h1 : b = true → T → C Γ x k e L) (h2 : b = false → F1 → C Γ y k e L) (hc : ev e c = .bool b := by exact rfl)
    (k1 : b = true → T := by first | exact dr | exact eq_of_beq | exact Uu | exact id) (k2 : b = false → F1 := by first | exact dw | exact ne_of_beq_false | exact Un | exact id) : C Γ (.cond c x y) k e L :=
  Sv hc (fun h => h1 h (k1 h)) (fun h => h2 h (k2 h))
def KL {b : Bool} (ht : b = true → T → L1 Γ ops rest k (e.put d (.bool true)) H) (hf : b = false → F1 → L1 Γ ops rest k (e.put d (.bool false)) H) (hl : dT Γ.P e ⟨d, op, t, pos, af, g⟩ = some (.bool b) := by exact rfl) (hg : eZ ops e ⟨d, op, t, pos, af, g⟩ = true := by exact rfl) (hd : eS Γ.n d = true := by exact rfl)
    (k1 : b = true → T := by first | exact dr | exact eq_of_beq | exact Uu | exact id) (k2 : b = false → F1 := by first | exact dw | exact ne_of_beq_false | exact Un | exact id) :
    L1 Γ ops (⟨d, op, t, pos, af, g⟩ :: rest) k e H := l_b hl hg hd (fun h => ht h (k1 h)) (fun h => hf h (k2 h))
def KE {b : Bool} (ht : b = true → T → L2 Γ ops S need pl k (e.put d (.bool true)) H) (hf : b = false → F1 → L2 Γ ops S need pl k (e.put d (.bool false)) H) (ho : ops[i]? = some ⟨d, op, t, pos, af, g⟩ := by exact rfl) (hl : dT Γ.P e ⟨d, op, t, pos, af, g⟩ = some (.bool b) := by exact rfl) (hg : eZ ops e ⟨d, op, t, pos, af, g⟩ = true := by exact rfl) (hd : eS Γ.n d = true := by exact rfl)
    (k1 : b = true → T := by first | exact dr | exact eq_of_beq | exact Uu | exact id) (k2 : b = false → F1 := by first | exact dw | exact ne_of_beq_false | exact Un | exact id) :
    L2 Γ ops S need (.step true i pl) k e H := aM9 ho hl hg hd (fun h => ht h (k1 h)) (fun h => hf h (k2 h))
def RX {K : AH → aF → Prop} (hop : dZ Γ ⟨d, op, t, pos, af, g⟩ e H K) (hg : (eZ ops e ⟨d, op, t, pos, af, g⟩ && eS Γ.n d) = true) (hk : ∀ v H', K v H' → L1 Γ ops rest k (e.put d v) H') :
    L1 Γ ops (⟨d, op, t, pos, af, g⟩ :: rest) k e H := M4 hop (Bool.and_eq_true_iff.1 hg).1 (Bool.and_eq_true_iff.1 hg).2 hk
def RY {v : AH} (hl : dT Γ.P e ⟨d, op, t, pos, af, g⟩ = some v) (hg : (eZ ops e ⟨d, op, t, pos, af, g⟩ && eS Γ.n d) = true) (h : L1 Γ ops rest k (e.put d v) H) :
    L1 Γ ops (⟨d, op, t, pos, af, g⟩ :: rest) k e H := Kv hl (Bool.and_eq_true_iff.1 hg).1 (Bool.and_eq_true_iff.1 hg).2 h
def RW {v u : AH} (hl : dT Γ.P e ⟨d, op, t, pos, af, g⟩ = some u) (hg : (eZ ops e ⟨d, op, t, pos, af, g⟩ && eS Γ.n d) = true) (hv : u = v) (h : L1 Γ ops rest k (e.put d v) H) :
    L1 Γ ops (⟨d, op, t, pos, af, g⟩ :: rest) k e H := aNB hl (Bool.and_eq_true_iff.1 hg).1 (Bool.and_eq_true_iff.1 hg).2 hv h
def DX {K : AH → aF → Prop} (ho : ops[i]? = some ⟨d, op, t, pos, af, g⟩) (hop : dZ Γ ⟨d, op, t, pos, af, g⟩ e H K) (hg : (eZ ops e ⟨d, op, t, pos, af, g⟩ && eS Γ.n d) = true) (hn : need.any (Nat.beq i) = true → ∀ v H', K v H' → ∀ x ∈ F, x ∈ H')
    (hk : ∀ v H', K v H' → L2 Γ ops (kK Γ F) need pl k (e.put d v) H') :
    L2 Γ ops (kK Γ F) need (.step false i pl) k e H := d_x ho hop (Bool.and_eq_true_iff.1 hg).1 (Bool.and_eq_true_iff.1 hg).2 hn hk
def DW {v u : AH} (ho : ops[i]? = some ⟨d, op, t, pos, af, g⟩) (hl : dT Γ.P e ⟨d, op, t, pos, af, g⟩ = some u) (hg : (Cr u && (eZ ops e ⟨d, op, t, pos, af, g⟩ && eS Γ.n d)) = true) (hv : u = v) (h : L2 Γ ops S need pl k (e.put d v) H) :
    L2 Γ ops S need (.step true i pl) k e H := aOY ho hl (Bool.and_eq_true_iff.1 hg).1 (Bool.and_eq_true_iff.1 (Bool.and_eq_true_iff.1 hg).2).1 (Bool.and_eq_true_iff.1 (Bool.and_eq_true_iff.1 hg).2).2 hv h
def DY {v : AH} (ho : ops[i]? = some ⟨d, op, t, pos, af, g⟩) (hl : dT Γ.P e ⟨d, op, t, pos, af, g⟩ = some v) (hg : (Cr v && (eZ ops e ⟨d, op, t, pos, af, g⟩ && eS Γ.n d)) = true) (h : L2 Γ ops S need pl k (e.put d v) H) :
    L2 Γ ops S need (.step true i pl) k e H := Ds ho hl (Bool.and_eq_true_iff.1 hg).1 (Bool.and_eq_true_iff.1 (Bool.and_eq_true_iff.1 hg).2).1 (Bool.and_eq_true_iff.1 (Bool.and_eq_true_iff.1 hg).2).2 h
def DL {T : AJ} {x : AK} {b off : Nat} {v : AH} (ho : ops[i]? = some ⟨d, .load T x, t, pos, af, g⟩) (hx : bC (ev e x) = some (.pointer (some ⟨b, off, none⟩))) (hs : wW Γ.P T = true)
    (hc : ∀ w, kK Γ F w → w.cell? ⟨b, off, none⟩ = some v) (hg : (eZ ops e ⟨d, .load T x, t, pos, af, g⟩ && eS Γ.n d) = true) (h : L2 Γ ops (kK Γ F) need pl k (e.put d v) H) :
    L2 Γ ops (kK Γ F) need (.step true i pl) k e H := W3 ho hx hs hc (Bool.and_eq_true_iff.1 hg).1 (Bool.and_eq_true_iff.1 hg).2 h
def W {v : AH} {H2 : aF} (hop : dZ Γ ⟨d, op, t, pos, af, g⟩ e H (fun u H' => u = v ∧ H' = H2)) (hg : (eZ ops e ⟨d, op, t, pos, af, g⟩ && eS Γ.n d) = true) (hk : L1 Γ ops rest k (e.put d v) H2) :
    L1 Γ ops (⟨d, op, t, pos, af, g⟩ :: rest) k e H := RX hop hg (by rintro _ _ ⟨rfl, rfl⟩; exact hk)
def DZ {v : AH} {H2 : aF} (ho : ops[i]? = some ⟨d, op, t, pos, af, g⟩) (hop : dZ Γ ⟨d, op, t, pos, af, g⟩ e H (fun u H' => u = v ∧ H' = H2)) (hg : (eZ ops e ⟨d, op, t, pos, af, g⟩ && eS Γ.n d) = true) (hn : need.any (Nat.beq i) = true → ∀ u H', (u = v ∧ H' = H2) → ∀ x ∈ F, x ∈ H')
    (hk : L2 Γ ops (kK Γ F) need pl k (e.put d v) H2) : L2 Γ ops (kK Γ F) need (.step false i pl) k e H := DX ho hop hg hn (by rintro _ _ ⟨rfl, rfl⟩; exact hk)
def RS {v : AH} (h : L1 Γ ops rest k (e.put d v) H) (hl : dT Γ.P e ⟨d, op, t, pos, af, g⟩ = some v := by exact rV rfl rfl rfl rfl) (hg : (eZ ops e ⟨d, op, t, pos, af, g⟩ && eS Γ.n d) = true := by exact rfl) :
    L1 Γ ops (⟨d, op, t, pos, af, g⟩ :: rest) k e H := RY hl hg h
def E0 {Γ : dQ} {s : Nat} {R : AH → aF → Prop} {v : AH} (hv : bC (e s) = some v) (h : R v []) : rC Γ [.tmp s] R e H := aZ (fun _ _ => Cy hv) h
def EV {Γ : dQ} {s : Nat} {R : AH → aF → Prop} {H' : aF} {v : AH} (hv : bC (e s) = some v) (hh : H'.Sublist H) (h : R v H') : rC Γ [.tmp s] R e H := iU (fun _ _ => Cy hv) hh h
def EN {Γ : dQ} {R : AH → aF → Prop} {H' : aF} (hh : H'.Sublist H) (h : R (.tuple #[]) H') : rC Γ [] R e H := iU (fun _ _ => nK) hh h
end
@[reducible] def bW : AE → lH
  | [] => .done
  | n :: l => .step (Nat.beq (n % 2) 0) (n / 2) (bW l)
def DR {Γ : dQ} {k : fT} {e : bB} {H : aF} {id : Nat} {l : List Oper} (need : AE) (pl : lH) (h : L2 Γ l (kK Γ H) need pl k e H) (hm : Γ.P.follows .mixedOrders = true := by exact rfl) (hs : C7 l.toArray = true := by kernel_rfl)
    (hB : oE .any l.toArray (fun i => need.any (Nat.beq i)) pl l.toArray.size true (Array.replicate l.toArray.size false) true = true := by kernel_rfl) : C Γ (.region id l.toArray true) k e H := mZ H need pl hm hs hB (fun _ h => h) h
end Go.VV
namespace Go.VV
open Go Go.ChangeShapes Go.WideShapes Go.ChangeAt Go.RowKit
inductive NK where
 | int (k : AM)
 | bool
 | str
 | ints (k : AM)
 | rows (ks : List CK)
def aLA (W : AI) : NK → AH → Prop
 | .int k, v => ∃ n, v = .int k n ∧ (Lit.int k n).wf = true
 | .bool, v => ∃ b, v = .bool b
 | .str, v => ∃ s : ByteArray, v = .string s ∧ s.size ≤ maxLen
 | .ints k, v => ∃ (a : AC) (c : Nat) (l : AB), v = .slice a l.length c ∧ l.length ≤ c ∧ l.length ≤ maxLen ∧ (∀ x ∈ l, (Lit.int k x).wf = true) ∧ Ns W k a l
 | .rows ks, v => ∃ (a : AC) (c : Nat) (l : List (List AH)), v = .slice a l.length c ∧ l.length ≤ c ∧ l.length ≤ maxLen ∧ (∀ x ∈ l, nG ks x) ∧ iY W id a l
def pG (W : AI) : List NK → AA → Prop
 | [], [] => True
 | k :: ks, v :: vs => aLA W k v ∧ pG W ks vs
 | _, _ => False
def pG.app {W : AI} : ∀ {a b : List NK} {x y : AA}, pG W a x → pG W b y → pG W (a ++ b) (x ++ y)
 | [], _, [], _, _, h => h
 | _ :: _, _, _ :: _, _, h, h2 => ⟨h.1, pG.app h.2 h2⟩
 | [], _, _ :: _, _, h, _ => h.elim
 | _ :: _, _, [], _, h, _ => h.elim
def pG.len {W : AI} : ∀ {a : List NK} {x : AA}, pG W a x → a.length = x.length
 | [], [], _ => rfl
 | _ :: _, _ :: _, h => by simp [pG.len h.2]
 | [], _ :: _, h => h.elim
 | _ :: _, [], h => h.elim
section
variable (P : AL)
def Rg (f : AJ → Option (List NK)) : List Field → Nat → Option (List NK)
 | [], _ => some []
 | fd :: r, off => match f fd.type with
  | some ks => bif Nat.beq fd.offset off && Nat.beq (P.cellsOf fd.type) ks.length then (match Rg f r (off + ks.length) with
   | some rs => some (ks ++ rs)
   | none => none) else none
  | none => none
def Rp : Nat → AJ → Option (List NK)
 | 0, _ => none
 | n + 1, t => match P.underlying t with
  | some (.int k) => some [.int k]
  | some .bool => some [.bool]
  | some .string => some [.str]
  | some (.slice e) => match P.underlying e with
   | some (.int k) => bif Nat.beq (P.cellsOf e) 1 then some [.ints k] else none
   | _ => match Ew P 9 e with
    | some ks => bif Nat.blt 0 (P.cellsOf e) then some [.rows ks] else none
    | none => none
  | some (.struct ⟨fs⟩) => match Rg P (Rp n) fs 0 with
   | some ks => bif Nat.beq (P.cellsOf t) ks.length then some ks else none
   | none => none
  | _ => none
end
def aP0 {H : Type} {enc : AJ × AH → H} {P : AL} {W : AI} {n : Nat} {t e : AJ} {k : AM} {cs : AA} {y : DataW H × List MemPlace} (ht : P.underlying t = some (.slice e)) (he : P.underlying e = some (.int k)) (hc : P.cellsOf e = 1)
  (hf : DataW.trod enc P W 0 (fun _ => true) true n t cs = some y) : pG W [NK.ints k] cs := by
 rcases open_ints ht he hc hf with ⟨rfl, _⟩ | ⟨x, l, c, zs, rfl, _, hl, hm, hz, _, hcell, hwz⟩
 ·exact ⟨⟨none, 0, [], U, bi _, av _, by simp, Ns.nil _ _ _⟩, trivial⟩
 ·have hz' : zs.length = c := by simpa using hz
  have hlen : (zs.take l).length = l := by rw [f0]; omega
  refine ⟨⟨some x, c, zs.take l, by rw [hlen], by omega, by omega, fun y hy => hwz y (dh hy), fun h0 => ?_⟩, trivial⟩
  obtain ⟨b, off, spot⟩ := x
  have h1 := hcell 0 (by omega)
  have hspot : spot = none := by simpa [Addr.add] using World.cell?_spot h1
  subst hspot
  refine ⟨b, off, U, fun j v hv => ?_⟩
  rw [df] at hv
  rw [fe] at hv
  split at hv
  ·have hj : j < zs.length := by omega
   have := hcell j hj
   have hadd : (⟨b, off, none⟩ : Addr).add j = ⟨b, off + j, none⟩ := by unfold Addr.add; split <;> simp_all
   rw [hadd] at this
   rw [am hj] at hv
   simp only [i6, Option.some.injEq] at hv
   subst hv
   simpa [dd, hj] using this
  ·cases hv
section
variable {H : Type} {enc : AJ × AH → H} {P : AL} {W : AI}
def aCl {f : AJ → Option (List NK)} {n : Nat} {cs : AA} (hf : ∀ {t : AJ} {ks : List NK} {xs : AA} {y : DataW H × List MemPlace}, f t = some ks → DataW.trod enc P W 0 (fun _ => true) true n t xs = some y → pG W ks xs) :
  ∀ (fs : List Field) (off : Nat) (ks : List NK), Rg P f fs off = some ks → (∀ fd ∈ fs, ∃ y, DataW.trod enc P W 0 (fun _ => true) true n fd.type ((cs.drop fd.offset).take (P.cellsOf fd.type)) = some y) → pG W ks ((cs.drop off).take ks.length)
 | [], off, ks, h, _ => by cases h; simp [pG]
 | fd :: r, off, ks, h, hy => by
  simp only [Rg] at h
  split at h
  ·rename_i k1 hk1
   by_cases hb : (Nat.beq fd.offset off && Nat.beq (P.cellsOf fd.type) k1.length) = true
   ·rw [hb, cond_true] at h
    simp only [cq] at hb
    have h1 := da hb.1
    have h2 := da hb.2
    split at h
    ·rename_i rs hrs
     cases h
     obtain ⟨y, hy1⟩ := hy fd (.head _)
     have a1 := hf hk1 hy1
     have a2 := aCl hf r _ rs hrs fun g hg => hy g (.tail _ hg)
     rw [h1, h2] at a1
     rw [ei, iw, bw]
     exact a1.app a2
    ·cases h
   ·simp only [f2] at hb
    rw [hb, cond_false] at h
    cases h
  ·cases h
def aFc : ∀ (m : Nat) {n : Nat} {t : AJ} {ks : List NK} {cs : AA} {y : DataW H × List MemPlace}, Rp P m t = some ks → DataW.trod enc P W 0 (fun _ => true) true n t cs = some y → pG W ks cs
 | 0, _, _, _, _, _, h, _ => by cases h
 | m + 1, n, t, ks, cs, y, h, hy => by
  simp only [Rp] at h
  split at h
  ·rename_i k ht
   cases h
   obtain ⟨x, rfl, _, hw⟩ := DataW.trod_int ht hy
   exact ⟨⟨x, U, hw⟩, trivial⟩
  ·rename_i ht
   cases h
   obtain ⟨b, rfl, _⟩ := DataW.trod_bool ht hy
   exact ⟨⟨b, U⟩, trivial⟩
  ·rename_i ht
   cases h
   obtain ⟨s, rfl, _, hs⟩ := DataW.trod_string ht hy
   exact ⟨⟨s, U, hs⟩, trivial⟩
  ·rename_i e ht
   split at h
   ·rename_i k he
    by_cases hb : Nat.beq (P.cellsOf e) 1 = true
    ·rw [hb, cond_true] at h
     cases h
     exact aP0 ht he (da hb) hy
    ·simp only [f2] at hb
     rw [hb, cond_false] at h
     cases h
   ·split at h
    ·rename_i ks1 hk1
     by_cases hb : Nat.blt 0 (P.cellsOf e) = true
     ·rw [hb, cond_true] at h
      cases h
      obtain ⟨a, cp, l, rfl, h1⟩ := aL1 (c := id) (p := nG ks1) _ ht hk1 rfl hb (fun cs hc => ⟨cs, rfl, hc⟩) hy
      exact ⟨⟨a, cp, l, U, h1⟩, trivial⟩
     ·simp only [f2] at hb
      rw [hb, cond_false] at h
      cases h
    ·cases h
  ·rename_i fs ht
   split at h
   ·rename_i k1 hk1
    by_cases hb : Nat.beq (P.cellsOf t) k1.length = true
    ·rw [hb, cond_true] at h
     cases h
     obtain ⟨xs, n', rfl, _, hl, hlen, hf⟩ := DataW.trod_struct ht hy
     have := aCl (cs := cs) (fun h1 h2 => aFc m h1 h2) fs 0 _ hk1 (fun fd hfd => by
      obtain ⟨i, hi, rfl⟩ := gl hfd
      have h3 := hf i fs[i] (by simp [hi])
      have hi' : i < xs.length := by rw [hlen]; simpa using hi
      rw [am hi'] at h3
      exact ⟨_, h3⟩)
     rw [kh, ← da hb, ← hl, dq] at this
     exact this
    ·simp only [f2] at hb
     rw [hb, cond_false] at h
     cases h
   ·cases h
  ·cases h
def aJN {α : Type} {r : Reach} {b0 : Nat} {t : AJ} {fs : Array Field} {ks : List NK} {c : α → AA} {p : α → Prop} {v : AH} {d : DataW H} {q : List MemPlace} (ht : P.underlying t = some (.struct fs)) (hk : Rp P 9 t = some ks)
  (hp : ∀ cs, pG W ks cs → ∃ x, cs = c x ∧ p x) (hv : Value.okWide P W r b0 t v) (h : DataW.Trod enc P W 0 (fun _ => true) true t v d q) : ∃ x : α, v = .agg (c x).toArray ∧ p x := by
 obtain ⟨⟨cs⟩, rfl, _⟩ := okWide_struct ht hv
 obtain ⟨fuel, hf⟩ := h
 have h1 := aFc 9 hk hf
 simp only [Value.cells] at h1
 obtain ⟨x, hx, hpx⟩ := hp _ h1
 exact ⟨x, by rw [← hx], hpx⟩
def aIs {α : Type} {ks : List CK} {c : α → AA} {p : α → Prop} {a : AC} {L : List (List AH)} (hp : ∀ cs, nG ks cs → ∃ x, cs = c x ∧ p x) (h : ∀ x ∈ L, nG ks x) (he : iY W id a L) : ∃ l : List α, L.length = l.length ∧ (∀ x ∈ l, p x) ∧ iY W c a l := by
 obtain ⟨l, rfl, hl⟩ := A7 (f := c) (p := p) fun x hx => hp x (h x hx)
 refine ⟨l, jc _, hl, fun h0 => ?_⟩
 obtain ⟨b, o, h1, h2⟩ := he (by simpa using h0)
 exact ⟨b, o, h1, by simpa [aN, List.flatMap_map] using h2⟩
end
end Go.VV
namespace Go.VV
open Go Go.RowKit
section
variable {Γ : dQ} {e : bB} {d : AD} {t : AJ} {pos : String} {af : AG} {g : Option (Nat × Bool)}
def aDQ {F A G : aF} {f : Nat} {l : AF} {ts : Array AJ} {vs : AA} (ms2 : AE) (hc : gR Γ.P f = true) (hv : lI e l = some vs) {R : AH → aF → Prop}
  (hms : ∀ b ∈ ms2, ∃ o, (b, o) ∈ A) (hf : ∀ w, St Γ.w0 Γ.ms (A ++ (F ++ G)) w → aG Γ.P f vs w ms2 R) :
  dZ Γ ⟨d, .call ⟨.value (.func f), l.toArray, ts⟩, t, pos, af, g⟩ e (F ++ (A ++ G)) (fun v H2 => ∃ H', R v H' ∧ H2 = F ++ (H' ++ G)) := by
 have key := kM (Γ := Γ) (e := e) (d := d) (t := t) (pos := pos) (af := af) (g := g) (A := A) (G := F ++ G) (ts := ts) (vs := vs) ms2 hc hv hms hf
 intro w hw
 have hw2 : St Γ.w0 Γ.ms (A ++ (F ++ G)) w := hw.perm (by
  rw [← de, ← de]
  exact d7 _ bg)
 refine tX (key w hw2) ?_
 rintro v w' ⟨H2, h2, H', hR, rfl⟩
 refine ⟨F ++ (H' ++ G), h2.perm ?_, H', hR, U⟩
 rw [← de, ← de]
 exact d7 _ bg
end
def aK.apart {w0 w : AI} {b off : Nat} {l : AA} (h : aK w0 b off l) (hl : 0 < l.length) {H : aF} (hw : St w0 [] H w) {x : Nat × Obj} (hm : x ∈ H) : b ≠ x.1 := by
 rintro rfl
 have h1 := h 0 (l[0]) (by rw [am hl])
 have h2 := (hw.own x hm).resolve_left (by simp)
 have h3 : w0.heap[x.1]? = none := fp (by omega)
 simp [World.cell?, h3] at h1
section
variable {P : AL} {e : bB} {d : AD} {ty : AJ} {pos : String} {af : AG} {g : Option (Nat × Bool)}
def aDD {α : Type} {t : AJ} {b : Bool} (h : rX P t = b) (hu : (P.underlying t).isSome = true) (K : Bool → Sem α) : eR P (isAgg t >>= K) = eR P (K b) := by
 subst h
 unfold rX
 cases hd : P.underlying t with
 | none => rw [hd] at hu; cases hu
 | some D =>
  simp only [isAgg, bind_assoc, mS hd]
  cases D <;> rfl
def Ny {t el n : Nat} {x i : AK} {k : AM} {j : Int} {l : AA} {u v : AH} (m : Nat) (hu : wA P t = some (n, el, 1)) (hs : rX P el = false) (hsu : (P.underlying el).isSome = true) (hx : bC (ev e x) = some (.agg ⟨l⟩)) (hi : bC (ev e i) = some (.int k j)) (hj : j = (m : Int)) (hm : m < n) (hv : l[m]? = some u) (hw : bC u = some v) :
  dT P e ⟨d, .index t x i, ty, pos, af, g⟩ = some v := by
 have hn := bT hw
 subst hn
 obtain ⟨h1, h2⟩ := Iz hu
 have hx := bT hx
 have hi := bT hi
 subst hj
 refine jA ?_ hw
 have h3 : (0 : Int) ≤ (m : Int) ∧ (m : Int) < (n : Int) := ⟨by omega, by omega⟩
 simp only [execOp, hx, hi, Instr.index, asIntOf, qQ, bind_assoc, mS h1, h3, and_self, if_true, uZ h2, db, part, aDD hs hsu, fq]
 have h6 : (Array.mk l)[m]? = some u := by simpa using hv
 simp [h6, eR, pure, bind, Sem.bind]
def Tw {t el n s : Nat} {x i : AK} {k : AM} {j : Int} {l c : AA} (m : Nat) (hu : wA P t = some (n, el, s)) (hs : rX P el = true) (hsu : (P.underlying el).isSome = true) (hx : bC (ev e x) = some (.agg ⟨l⟩)) (hi : bC (ev e i) = some (.int k j)) (hj : j = (m : Int)) (hm : m < n) (hv : (l.drop (m * s)).take s = c) :
  dT P e ⟨d, .index t x i, ty, pos, af, g⟩ = some (.agg ⟨c⟩) := by
 obtain ⟨h1, h2⟩ := Iz hu
 have hx := bT hx
 have hi := bT hi
 subst hj
 refine jA ?_ U
 have h3 : (0 : Int) ≤ (m : Int) ∧ (m : Int) < (n : Int) := ⟨by omega, by omega⟩
 simp only [execOp, hx, hi, Instr.index, asIntOf, qQ, bind_assoc, mS h1, h3, and_self, if_true, uZ h2, db, part, aDD hs hsu]
 have h6 : (Array.mk l).extract (m * s) (m * s + s) = Array.mk c := by
  rw [← hv]
  simp
 rw [h6]
 rfl
end
abbrev hU := Int × AH × Nat
def mC (k : AM) (e : hU) : MapEntry := { key := .int k e.1, val := e.2.1, born := e.2.2 }
def dL (k : AM) (l : List hU) (c : Nat) : Obj := .map (l.map (mC k)).toArray c
def kI (a : Int) : List hU → Nat → Option (Nat × AH)
 | [], _ => none
 | e :: l, i => if a = e.1 then some (i, e.2.1) else kI a l (i + 1)
def aCE (k : AM) (a : Int) : ∀ (l : List hU) (i : Nat), Instr.findNow (.int k) (.int k a) (l.map (mC k)) i = some (kI a l i)
 | [], _ => rfl
 | e :: l, i => by
  show (match Instr.sameNow (.int k) (.int k a) (mC k e).key with
   | some true => some (some (i, (mC k e).val))
   | some false => Instr.findNow (.int k) (.int k a) (l.map (mC k)) (i + 1)
   | none => none) = _
  have h1 : Instr.sameNow (.int k) (.int k a) (mC k e).key = some (a == e.1) := by show (if k = k then some (a == e.1) else none) = _; rw [ag rfl]
  rw [h1]
  unfold kI
  by_cases h : a = e.1
  ·rw [show (a == e.1) = true by simpa using h, ag h]; rfl
  ·rw [show (a == e.1) = false by simpa using h, ae h]; exact aCE k a l (i + 1)
def An (P : AL) (t : AJ) : Option (Nat × Nat × AM) := match P.underlying t with
 | some (.map kt el) => match P.underlying kt with
  | some (.int k) => some (kt, el, k)
  | _ => none
 | _ => none
def Ib {P : AL} {t kt el : Nat} {k : AM} (h : An P t = some (kt, el, k)) : P.underlying t = some (.map kt el) ∧ P.underlying kt = some (.int k) := by
 unfold An at h
 split at h
 ·split at h
  ·rename_i h1 _ _ h2
   cases h
   exact ⟨h1, h2⟩
  ·cases h
 ·cases h
def Yd (P : AL) (t : AJ) : Option AH := (P.info? t).bind (·.zero)
def aOs {P : AL} {t : AJ} {z : AH} (h : Yd P t = some z) (w : AI) : (zeroValue t).run P w = .ok z w := by
 unfold Yd at h
 cases hi : P.info? t with
 | none => rw [hi] at h; cases h
 | some i =>
  rw [hi] at h
  simp [zeroValue, typeInfo, hi, show i.zero = some z from h]
def Ue {P : AL} {w : AI} {b : Nat} {es : Array MapEntry} {c : Nat} (h : w.heap[b]? = some (.map es c)) : (getObj b).run P w = .ok (.map es c) w := by
 simp [getObj, Sem.run, h]
def F8 {P : AL} {w : AI} {b : Nat} {es : Array MapEntry} {c : Nat} (h : w.heap[b]? = some (.map es c)) (o : Obj) : (setObj b o).run P w = .ok () { w with heap := w.heap.setIfInBounds b o } := by
 simp [setObj, Sem.run, h]
def Nf {P : AL} {w : AI} {em : Bool} {kt : Nat} {k : AM} {a : Int} (h : P.underlying kt = some (.int k)) : (Instr.checkKey em 10000 kt (.int k a)).run P w = .ok () w := by
 show (Instr.checkKey em (9999 + 1) kt (.int k a)).run P w = _
 unfold Instr.checkKey
 simp only [ay, run_underlying h, au]
 rfl
def Th {P : AL} {w : AI} {kt : Nat} {k : AM} {a : Int} (h : P.underlying kt = some (.int k)) (l : List hU) : (Instr.findKey kt (.int k a) (l.map (mC k))).run P w = .ok (kI a l 0) w := by
 unfold Instr.findKey
 simp only [ay, run_underlying h, au, aCE, ca]
section
variable {Γ : dQ} {e : bB} {H : aF} {d : AD} {ty : AJ} {pos : String} {af : AG} {g : Option (Nat × Bool)}
def aBL {t : AJ} (k : AM) : dZ Γ ⟨d, .makeMap t none, ty, pos, af, g⟩ e H (fun u H' => ∃ b, u = .map (some b) ∧ H' = (b, dL k [] 0) :: H) := by
 intro w hw
 refine gX (v := .map (some w.heap.size)) (w' := w.alloc (dL k [] 0)) ?_ ⟨_, hw.alloc _, _, U, U⟩
 simp [execOp, Instr.makeMap, newObj]
 rfl
def St.setObj {w0 w : AI} {ms : AE} {i b : Nat} {o o' : Obj} (hw : St w0 ms H w) (hi : H[i]? = some (b, o)) : St w0 ms (H.set i (b, o')) { w with heap := w.heap.setIfInBounds b o' } := by
 have hb : w.heap[b]? = some o := hw.holds (b, o) (cw hi)
 have hlt : b < w.heap.size := (Array.getElem?_eq_some_iff.1 hb).1
 exact hw.setAt hi U U U (by simp) (fun k hk => by simp [gm (Ne.symm hk)]) (by simp [hlt])
def aC2 {t kt el : AJ} {m x y : AK} {b c : Nat} {k : AM} {a : Int} {v : AH} {l : List hU} (i : Nat) (hu : An Γ.P t = some (kt, el, k)) (hm : bC (ev e m) = some (.map (some b))) (hx : bC (ev e x) = some (.int k a)) (hy : bC (ev e y) = some v)
  (hi : H[i]? = some (b, dL k l c)) (hf : kI a l 0 = none) : dZ Γ ⟨d, .mapUpdate t m x y, ty, pos, af, g⟩ e H (fun u H' => u = undef ∧ H' = H.set i (b, dL k (l ++ [(a, v, c)]) (c + 1))) := by
 intro w hw
 obtain ⟨h1, h2⟩ := Ib hu
 have hm := bT hm
 have hx := bT hx
 have hy := bT hy
 have hb : w.heap[b]? = some (dL k l c) := hw.holds (b, _) (cw hi)
 have hS := hw.setObj (o' := dL k (l ++ [(a, v, c)]) (c + 1)) hi
 have e1 : ((l.map (mC k)).toArray.push { key := .int k a, val := v, born := c }) = ((l ++ [(a, v, c)]).map (mC k)).toArray := by simp [mC]
 refine Zc (w' := { w with heap := w.heap.setIfInBounds b (dL k (l ++ [(a, v, c)]) (c + 1)) }) ?_ ⟨_, hS, U, U⟩
 have key : (Instr.mapUpdate t (.map (some b)) (.int k a) v).run Γ.P w = .ok () { w with heap := w.heap.setIfInBounds b (dL k (l ++ [(a, v, c)]) (c + 1)) } := by
  unfold Instr.mapUpdate
  simp only [ay, run_underlying h1, au, Ue hb, Nf h2, eu, Th h2, hf, e1, F8 hb]
  rfl
 simp only [execOp, hm, hx, hy, ay, key, au, ca]
def nP {t kt el : AJ} {m x y : AK} {b c : Nat} {k : AM} {a : Int} {v : AH} {l : List hU} (i : Nat) (hu : An Γ.P t = some (kt, el, k)) (hm : bC (ev e m) = some (.map (some b))) (hx : bC (ev e x) = some (.int k a)) (hy : bC (ev e y) = some v)
  (hi : H[i]? = some (b, dL k l c)) (hf : kI a l 0 = none) : dZ Γ ⟨d, .insert t m x y, ty, pos, af, g⟩ e H (fun u H' => u = undef ∧ H' = H.set i (b, dL k (l ++ [(a, v, c)]) (c + 1))) := aC2 (d := d) (ty := ty) (pos := pos) (af := af) (g := g) i hu hm hx hy hi hf
def Ll (z : AH) : Option (Nat × AH) → Array AH
 | some (_, v) => #[v, .bool true]
 | none => #[z, .bool false]
def aAM {t kt el : AJ} {m x : AK} {b c : Nat} {k : AM} {a : Int} {z : AH} {l : List hU} (hu : An Γ.P t = some (kt, el, k)) (hm : bC (ev e m) = some (.map (some b))) (hx : bC (ev e x) = some (.int k a)) (hz : Yd Γ.P el = some z)
  (hi : (b, dL k l c) ∈ H) : dZ Γ ⟨d, .lookup t m x true, ty, pos, af, g⟩ e H (fun u H' => u = .tuple (Ll z (kI a l 0)) ∧ H' = H) := by
 intro w hw
 obtain ⟨h1, h2⟩ := Ib hu
 have hm := bT hm
 have hx := bT hx
 have hb : w.heap[b]? = some (dL k l c) := hw.holds (b, _) hi
 refine gX (v := .tuple (Ll z (kI a l 0))) (w' := w) ?_ ⟨_, hw, U, U⟩
 have key : (Instr.lookup t (.map (some b)) (.int k a) true).run Γ.P w = .ok (.tuple (Ll z (kI a l 0))) w := by
  unfold Instr.lookup
  simp only [ay, run_underlying h1, au, Ue hb, Nf h2, ca, eu, Th h2]
  cases hf : kI a l 0 with
  | none => simp only [ay, aOs hz, au, ca]; rfl
  | some p => simp only [ca, au]; rfl
 simp only [execOp, hm, hx, ay, key, au, ca]
end
section
variable {Γ : dQ} {e : bB} {H : aF} {d : AD} {t : AJ} {pos : String} {af : AG} {g : Option (Nat × Bool)}
def aNK {f : Nat} {fn : Func} {l : AF} {ts : Array AJ} {vs : AA} {E : Array AH → Sem AH} {u : AH} (hf : Γ.P.funcs[f]? = some fn) (hname : (fn.name == "runtime.NumGoroutine") = false)
  (hb : fn.body.isNone = true) (hn : Extern.findNext fn = none) (he : Extern.find fn = some E) (hv : lI e l = some vs) (hr : ∀ w, (E vs.toArray).run Γ.P w = .ok u w) :
  dZ Γ ⟨d, .call ⟨.value (.func f), l.toArray, ts⟩, t, pos, af, g⟩ e H (fun v H' => v = u ∧ H' = H) := by
 intro w hw
 refine gX (v := u) (w' := w) ?_ ⟨H, hw, U, U⟩
 have hargs : l.map (ev e) = vs := Cd hv
 have h1 := run_callFunc_extern hf hname hb hn he vs.toArray w
 rw [hr w] at h1
 simp only [au] at h1
 subst hargs
 simp [execOp, resolve, Deferred.ofValue, ev, invoke, h1]
def aJC {x y : AK} {ts : Array AJ} {pt it el : AJ} {b : Nat} {a : List UInt8} {sp : AA} (hx : bC (ev e x) = some (.pointer (some ⟨b, 0, none⟩))) (hy : bC (ev e y) = some (.int .i64 a.length)) (hts : ts = #[pt, it])
  (hp : Γ.P.underlying pt = some (.pointer el)) (hc : Γ.P.cellsOf el = 1) (h0 : a ≠ []) (hl : a.length ≤ 1000000) :
  dZ Γ ⟨d, .call ⟨.builtin .unsafeString, #[x, y], ts⟩, t, pos, af, g⟩ e ((b, J (a.map (fun c => .int .u8 c.toNat) ++ sp) el) :: H) (fun v H' => v = .string (bs a) ∧ ∃ o, H' = (b, o) :: H) := by
 intro w hw
 subst hts
 have hx := bT hx
 have hy := bT hy
 have hg : w.heap[b]? = some (J (a.map (fun c => .int .u8 c.toNat) ++ sp) el) := hw.own_blk (.head _)
 have hpos := List.length_pos_iff.2 h0
 have hsh : w.shape? b = some (el, (a.map (fun c => Value.int .u8 c.toNat) ++ sp).toArray.size) := by unfold World.shape?; rw [hg]
 have hrun := Lib.run_unsafeString_row (P := Γ.P) (w := w) pt it t el hp hc b _ hsh a h0 (by simp) (by omega) (fun j c hj => by
  have := aH (H := (b, J (a.map (fun c => .int .u8 c.toNat) ++ sp) el) :: H) (.head _) w hw j (.int .u8 c.toNat) (by
   rw [dp (by rw [jc]; exact (List.getElem?_eq_some_iff.1 hj).1), df, hj]; rfl)
  rw [xF, cg]
  simpa using this)
 refine gX (v := .string (bs a)) (w' := w.freeze ⟨b, 0, none⟩ a.length) ?_ ?_
 ·simp only [execOp, resolve, ay, ca, au, invoke, builtin, dj, cu, dk, hx, hy, hrun]
  rfl
 ·refine ⟨(b, Obj.cells (a.map (fun c => Value.int .u8 c.toNat) ++ sp).toArray el (0, 0 + a.length)) :: H, ?_, U, _, U⟩
  refine hw.turn ?_ ?_ ?_ ?_ ?_ ?_
  all_goals unfold World.freeze; rw [ae (by omega)]
  ·simp
  ·intro k hk
   simp only
   rw [gu, ae (Ne.symm hk)]
  ·simp only
   rw [gu, ag rfl, hg]
   rfl
end
section
variable {Γ : dQ} {P : AL} {e : bB} {H : aF} {d : AD} {t : AJ} {pos : String} {af : AG} {g : Option (Nat × Bool)}
def aH6 {x : AK} {ts : Array AJ} (hx : bC (ev e x) = some (.slice none 0 0)) :
  dZ Γ ⟨d, .call ⟨.builtin .unsafeSliceData, #[x], ts⟩, t, pos, af, g⟩ e H (fun v H' => v = .pointer none ∧ H' = H) := by
 intro w hw
 have hx := bT hx
 refine gX (v := .pointer none) (w' := w) ?_ ⟨_, hw, U, U⟩
 simp only [execOp, resolve, ay, ca, au, invoke, builtin, dj, cu, dk, hx]
 rfl
def aJE {x : AK} {ts : Array AJ} {b off n k : Nat} (hx : bC (ev e x) = some (.slice (some ⟨b, off, none⟩) n (k + 1))) :
  dZ Γ ⟨d, .call ⟨.builtin .unsafeSliceData, #[x], ts⟩, t, pos, af, g⟩ e H (fun v H' => v = .pointer (some ⟨b, off, none⟩) ∧ H' = H) := by
 intro w hw
 have hx := bT hx
 refine gX (v := .pointer (some ⟨b, off, none⟩)) (w' := w) ?_ ⟨_, hw, U, U⟩
 simp only [execOp, resolve, ay, ca, au, invoke, builtin, dj, cu, dk, hx]
 rfl
def aI2 {tp te u : AJ} {x y : AK} {a : Addr} (hx : bC (ev e x) = some (.pointer (some a))) (hy : bC (ev e y) = some (.pointer (some a))) (hp : Γ.P.underlying tp = some (.pointer te)) (hte : (Γ.P.info? te).isSome = true) :
  dZ Γ ⟨d, .binOp .neq tp x y u, t, pos, af, g⟩ e H (fun v H' => v = .bool false ∧ H' = H) := by
 intro w hw
 have hx := bT hx
 have hy := bT hy
 obtain ⟨j, hj⟩ := Option.isSome_iff_exists.1 hte
 have hg : (eqGuard .neq tp x y (.pointer (some a)) (.pointer (some a))).run Γ.P w = .ok () w := rfl
 refine gX (v := .bool false) (w' := w) ?_ ⟨_, hw, U, U⟩
 simp only [execOp, hx, hy, ay, hg, Lib.run_neq_ptr_same w a hp hj, au, ca]
def aDW {w : AI} {b : Nat} {l : AA} {T : AJ} {fr : Nat × Nat} (h : w.heap[b]? = some (.cells l.toArray T fr)) : w.shape? b = some (T, l.length) := by unfold World.shape?; rw [h]; rfl
def aNj {src dst u : AJ} {x : AK} {b : Nat} {l : AA} {T : AJ} {fr : Nat × Nat} {n : Nat} (hx : bC (ev e x) = some (.pointer (some ⟨b, 0, none⟩))) (hs : Γ.P.underlying src = some (.pointer u)) (hd : Γ.P.underlying dst = some .unsafePointer) (hn : kU Γ.P u = some n) (h0 : Nat.blt 0 n = true)
  (hm : (b, Obj.cells l.toArray T fr) ∈ H) (hl : 0 < l.length) : dZ Γ ⟨d, .convert src dst x, t, pos, af, g⟩ e H (fun v H' => v = .pointer (some ⟨b, 0, none⟩) ∧ H' = H) := by
 intro w hw
 have hx := bT hx
 unfold kU at hn
 obtain ⟨j, hj, hjn⟩ := Option.map_eq_some_iff.1 hn
 have hpos : j.size ≠ 0 := by have : 0 < n := ai h0; omega
 refine gX (v := .pointer (some ⟨b, 0, none⟩)) (w' := w) ?_ ⟨_, hw, U, U⟩
 simp only [execOp, hx, ay, Lib.run_to_unsafe w ⟨b, 0, none⟩ hs hd hj hpos (aDW (hw.holds _ hm)) hl, au, ca]
def aKK {src dst u : AJ} {x : AK} {b n : Nat} {l : AA} {T : AJ} {fr : Nat × Nat} (hx : bC (ev e x) = some (.pointer (some ⟨b, 0, none⟩))) (hs : Γ.P.underlying src = some .unsafePointer) (hd : Γ.P.underlying dst = some (.pointer u)) (hu : (Γ.P.info? u).isSome = true)
  (hm : (b, Obj.cells l.toArray T fr) ∈ H) (hl : l.length = n) (hli : liesAt Γ.P Γ.P.depth T (n / Γ.P.cellsOf T) 0 u 1 = true) : dZ Γ ⟨d, .convert src dst x, t, pos, af, g⟩ e H (fun v H' => v = .pointer (some ⟨b, 0, none⟩) ∧ H' = H) := by
 intro w hw
 have hx := bT hx
 obtain ⟨j, hj⟩ := Option.isSome_iff_exists.1 hu
 subst hl
 refine gX (v := .pointer (some ⟨b, 0, none⟩)) (w' := w) ?_ ⟨_, hw, U, U⟩
 simp only [execOp, hx, ay, Lib.run_from_unsafe w ⟨b, 0, none⟩ hs hd hj (aDW (hw.holds _ hm)) hli, au, ca]
def aPv {x y : AK} {ts : Array AJ} {pt it : AJ} (hx : bC (ev e x) = some (.pointer none)) (hy : bC (ev e y) = some (.int .i64 0)) (hts : ts = #[pt, it]) :
  dZ Γ ⟨d, .call ⟨.builtin .unsafeString, #[x, y], ts⟩, t, pos, af, g⟩ e H (fun v H' => v = .string (bs []) ∧ H' = H) := by
 intro w hw
 subst hts
 have hx := bT hx
 have hy := bT hy
 refine gX (v := .string (bs [])) (w' := w) ?_ ⟨_, hw, U, U⟩
 simp only [execOp, resolve, ay, ca, au, invoke, builtin, dj, cu, dk, hx, hy]
 rfl
def aAD {tt el n : Nat} {x y : AK} {z : AH} {i : TypeInfo} (hx : bC (ev e x) = some (.int .i64 n)) (hy : bC (ev e y) = some (.int .i64 n)) (hn : n ≤ 1000000000) (hu : rE Γ.P tt = some (el, 1)) (hz : tJ Γ.P el = some [z]) (hi : Γ.P.info? el = some i) (hb : i.bytes = 1) :
  dZ Γ ⟨d, .makeSlice tt x y, t, pos, af, g⟩ e H (fun u H' => ∃ b, u = .slice (some ⟨b, 0, none⟩) n n ∧ H' = (b, J (List.replicate n z) el) :: H) := by
 rcases d9 n with h0 | h0
 ·subst h0
  intro w hw
  obtain ⟨h1, h2⟩ := wZ hu
  have hx := bT hx
  have hy := bT hy
  have key : (Instr.makeSlice tt (.int .i64 (0 : Nat)) (.int .i64 (0 : Nat))).run Γ.P w = .ok (.slice (some ⟨w.heap.size, 0, none⟩) 0 0) (w.alloc (J [] el)) := by
   unfold Instr.makeSlice
   have e1 : (typeInfo el).run Γ.P w = .ok i w := by simp [typeInfo, hi]
   have hw1 : IntKind.i64.wrap ((0 : Nat) : Int) = 0 := by decide
   have hpow : ((2 : Int) ^ 48) = 281474976710656 := by decide
   have hbad : (decide ((0 : Int) < 0) || decide ((i.bytes : Int) * 0 > 281474976710656) || decide ((0 : Int) < 0) || decide ((0 : Int) > 0)) = false := by rw [hb]; decide
   simp only [ay, run_underlying h1, au, asInt, asIntOf, ca, e1, hw1]
   simp only [hpow, hbad, ep, if_false, ay, run_askRoom, vI h2, au, ca]
   rw [ag (show (0 : Int).toNat * 1 = 0 from rfl)]
   simp [newRow, newObj]
   rw [show (Array.map (fun x => (default : AH)) (Array.range 0)) = #[] from by simp]
   rfl
  refine gX (v := .slice (some ⟨w.heap.size, 0, none⟩) 0 0) (w' := w.alloc (J [] el)) ?_ ⟨_, hw.alloc _, _, U, U⟩
  simp only [execOp, hx, hy, ay, key, au, ca]
 ·have hby : If Γ.P el n = true := by
   unfold If
   rw [hi]
   simp only [hb, fq]
   simp
   omega
  have h := aHI (Γ := Γ) (e := e) (H := H) (d := d) (t := t) (pos := pos) (af := af) (g := g) hx hy rfl rfl (bi n) hu hz (Nat.ble_eq_true_of_le (show 0 + 1 ≤ n * 1 by omega)) hby
  rw [fq, aG7] at h
  exact h
def bM.parts {T : Nat} {v : AH} {xs : AA} {G : aF} {n : Nat} (h : bM T 1 v n xs G) (h0 : n = 0 → v = .slice none 0 0 ∧ G = []) : (n = 0 ∧ v = .slice none 0 0 ∧ G = []) ∨ ∃ b k sp, n ≠ 0 ∧ v = .slice (some ⟨b, 0, none⟩) n (k + 1) ∧ G = [(b, J (xs ++ sp) T)] := by
 by_cases hn : n = 0
 ·exact .inl ⟨hn, h0 hn⟩
 ·obtain ⟨b, cp, sp, h1, h2, _, h4, _⟩ := h.full hn
  obtain ⟨k, rfl⟩ : ∃ k, cp = k + 1 := ⟨cp - 1, by omega⟩
  exact .inr ⟨b, k, sp, hn, h1, h2⟩
end
section
variable {P : AL} {e : bB}
def aAp {a b s u r : Nat} {T : AJ} {l : AA} {v v2 v3 : AH} {w : AI} (h : bC (e a) = some (.pointer (some ⟨b, 0, none⟩))) (hs : rX P T = true) (hn : kU P T = some l.length) (hr : aK w b 0 l) (h2 : bC (e s) = some v) (h3 : bC (e u) = some v2) (h4 : bC (e r) = some v3) :
  kR P [.cell a T, .tmp s, .tmp u, .tmp r] e w (.tuple #[.agg l.toArray, v, v2, v3]) := by
 have h := bT h
 have hl := run_loadCells_list (P := P) w ⟨b, 0, none⟩ l hr.add
 have h2 := bT h2
 have h3 := bT h3
 have h4 := bT h4
 simp [kR, vM, h, h2, h3, h4, asAddr, loadVar, ay, Fx hs, vI hn, hl]
end
section
variable {Γ : dQ} {e : bB} {F A G : aF} {d : AD} {t : AJ} {pos : String} {af : AG} {g : Option (Nat × Bool)} {f : Nat} {l : AF} {ts : Array AJ}
def eO {vs : AA} (hc : gR Γ.P f = true) (hv : lI e l = some vs) {R : AH → aF → Prop} (hf : ∀ w, St w (A.map (·.1)) A w → St Γ.w0 Γ.ms (A ++ (F ++ G)) w → aG Γ.P f vs w (A.map (·.1)) R) :
  dZ Γ ⟨d, .call ⟨.value (.func f), l.toArray, ts⟩, t, pos, af, g⟩ e (F ++ (A ++ G)) (fun v H2 => ∃ H', R v H' ∧ H2 = F ++ (H' ++ G)) :=
 aDQ (F := F) (A := A) (G := G) (A.map (·.1)) hc hv (fun _ hb => jS hb) (fun w hw => hf w (St.lentV hw) hw)
end
end Go.VV
namespace Go.VV
open Go
def aG.frame {P : AL} {f : Nat} {vs : AA} {w : AI} {ms ms2 : AE} {F G : aF} {R R' : AH → aF → Prop} (hw : St w ms (F ++ G) w) (hms : ∀ b ∈ ms2, ∃ o, (b, o) ∈ F) (hf : aG P f vs w ms2 R)
  (hr : ∀ v H' w', R v H' → St w ms (H' ++ G) w' → ∃ H2, St w ms H2 w' ∧ R' v H2) : aG P f vs w ms R' :=
 Calls.mono hf fun _ _ ⟨v, H', he, h1, h2⟩ => by
  obtain ⟨H2, h3, h4⟩ := hr v H' _ h2 (hw.call hms h1)
  exact ⟨v, H2, he, h3, h4⟩
def aG.turn {P : AL} {f : Nat} {vs : AA} {w : AI} {ms : AE} {R R' : AH → aF → Prop} (hf : aG P f vs w ms R) (hr : ∀ v H' w', R v H' → St w ms H' w' → ∃ H2, St w ms H2 w' ∧ R' v H2) : aG P f vs w ms R' :=
 Calls.mono hf fun _ _ ⟨v, H', he, h1, h2⟩ => by
  obtain ⟨H2, h3, h4⟩ := hr v H' _ h2 h1
  exact ⟨v, H2, he, h3, h4⟩
end Go.VV
namespace Go.VV
open Go Go.RowKit
def pU (l : List hU) (seen : AE) : List hU := l.filter fun e => !(seen.contains e.2.2)
def oQ (b since : Nat) (seen : AE) (c : Nat) : Obj := .mapIter (some b) since seen.toArray c
def aE8 (k : AM) (l : List hU) (seen : AE) : (leftOf (l.map (mC k)).toArray seen.toArray).toList = (pU l seen).map (mC k) := by
 unfold leftOf pU
 rw [Array.toList_filter, eu, List.filter_map]
 congr 1
 refine List.filter_congr fun x _ => ?_
 show (!seen.toArray.contains x.2.2) = (!seen.contains x.2.2)
 rw [List.contains_toArray]
def oY (a : Int) : List hU → List hU
 | [] => []
 | e :: l => if a = e.1 then l else e :: oY a l
def aAY (k : AM) (a : Int) : ∀ (l : List hU) (i : Nat), (∀ j v, kI a l i = some (j, v) → i ≤ j ∧ ((l.map (mC k)).eraseIdx (j - i)) = (oY a l).map (mC k)) ∧ (kI a l i = none → oY a l = l)
 | [], i => ⟨fun _ _ h => (by cases h), fun _ => rfl⟩
 | e :: l, i => by
  obtain ⟨h1, h2⟩ := aAY k a l (i + 1)
  unfold kI oY
  by_cases h : a = e.1
  ·rw [ag h, ag h]
   refine ⟨fun j v h3 => ?_, fun h3 => (by cases h3)⟩
   cases h3
   exact ⟨bi _, by rw [j2]; rfl⟩
  ·rw [ae h, ae h]
   refine ⟨fun j v h3 => ?_, fun h3 => by rw [h2 h3]⟩
   obtain ⟨h4, h5⟩ := h1 j v h3
   refine ⟨by omega, ?_⟩
   rw [show j - i = (j - (i + 1)) + 1 by omega, cu, cu, List.eraseIdx_cons_succ, h5]
def aD4 (a : Int) : ∀ (l : List hU) (i j : Nat) (v : AH), kI a l i = some (j, v) → j < i + l.length
 | [], _, _, _, h => by cases h
 | e :: l, i, j, v, h => by
  unfold kI at h
  split at h
  ·cases h; simp
  ·have := aD4 a l (i + 1) j v h; simp only [iz]; omega
section
variable {Γ : dQ} {e : bB} {H : aF} {d : AD} {ty : AJ} {pos : String} {af : AG} {g : Option (Nat × Bool)} {k : AM} {l : List hU} {b c : Nat}
def aQg {t kt el : AJ} {x : AK} (hu : An Γ.P t = some (kt, el, k)) (hm : bC (ev e x) = some (.map (some b))) (hb : (b, dL k l c) ∈ H) :
  dZ Γ ⟨d, .range t x, ty, pos, af, g⟩ e H (fun u H' => ∃ r, u = .pointer (some ⟨r, 0, none⟩) ∧ H' = (r, oQ b c [] c) :: H) := by
 intro w hw
 have hb' : w.heap[b]? = some (dL k l c) := hw.holds (b, _) hb
 refine gX (v := .pointer (some ⟨w.heap.size, 0, none⟩)) (w' := w.alloc (oQ b c [] c)) ?_ ⟨_, hw.alloc _, _, U, U⟩
 simp only [execOp, bT hm, ay, run_range_map w t kt el b _ c (Ib hu).1 hb', au, ca]
 rfl
def aDz {x : AK} {r since c0 : Nat} {seen : AE} (i : Nat) (hx : bC (ev e x) = some (.pointer (some ⟨r, 0, none⟩))) (hr : H[i]? = some (r, oQ b since seen c0)) (hb : (b, dL k l c) ∈ H) (hold : ∀ y ∈ l, y.2.2 < since) (hsc : since ≤ c0) :
  dZ Γ ⟨d, .next x false, ty, pos, af, g⟩ e H (fun u H' => (pU l seen = [] ∧ u = .tuple #[.bool false] ∧ H' = H) ∨ ∃ y ∈ pU l seen, u = .tuple #[.bool true, .int k y.1, y.2.1] ∧ H' = H.set i (r, oQ b since (seen ++ [y.2.2]) c)) := by
 intro w hw
 have hr' : w.heap[r]? = some (oQ b since seen c0) := hw.holds (r, _) (cw hr)
 have hb' : w.heap[b]? = some (dL k l c) := hw.holds (b, _) hb
 have hold' : ∀ y ∈ (l.map (mC k)).toArray.toList, y.born < since := by
  intro y hy
  rw [eu] at hy
  obtain ⟨z, hz, rfl⟩ := List.mem_map.1 hy
  exact hold z hz
 rcases run_next_at (P := Γ.P) w ty r b since c0 seen.toArray (l.map (mC k)).toArray c hr' hb' hold' hsc with ⟨h0, hrun⟩ | ⟨y, hy, w1, hw1, hrun⟩
 ·refine gX (v := .tuple #[.bool false]) (w' := w) ?_ ⟨H, hw, .inl ⟨?_, U, U⟩⟩
  ·simp only [execOp, bT hx, ay, hrun, au, ca]
  ·have h1 := aE8 k l seen
   have h2 : (leftOf (l.map (mC k)).toArray seen.toArray).toList = [] := by rw [← Array.length_toList] at h0; exact List.length_eq_zero_iff.1 h0
   rw [h2] at h1
   exact List.map_eq_nil_iff.1 h1.symm
 ·rw [aE8] at hy
  obtain ⟨z, hz, rfl⟩ := List.mem_map.1 hy
  have hs1 : St Γ.w0 Γ.ms H w1 := by
   rcases hw1 with rfl | rfl
   ·exact hw
   ·exact hw.drew
  have hr1 : w1.heap[r]? = some (oQ b since seen c0) := hs1.holds (r, _) (cw hr)
  have hlt : r < w1.heap.size := (Array.getElem?_eq_some_iff.1 hr1).1
  refine gX (v := .tuple #[.bool true, .int k z.1, z.2.1]) (w' := ChangeMaps.setBlock w1 r (oQ b since (seen ++ [z.2.2]) c)) ?_ ⟨_, hs1.setAt hr U U U (by simp [ChangeMaps.setBlock]) (fun j hj => by simp [ChangeMaps.setBlock, gm (Ne.symm hj)]) (by simp [ChangeMaps.setBlock, hlt]), .inr ⟨z, hz, U, U⟩⟩
  simp only [execOp, bT hx, ay, hrun, au, ca]
  unfold oQ
  rw [← List.push_toArray]
  rfl
def aOu {x : AK} {r since c0 : Nat} {seen : AE} (i : Nat) (hx : bC (ev e x) = some (.pointer (some ⟨r, 0, none⟩))) (hr : H[i]? = some (r, oQ b since seen c0)) (hb : (b, dL k l c) ∈ H) (hold : ∀ y ∈ l, y.2.2 < since) (hsc : since ≤ c0) (h0 : pU l seen = []) :
  dZ Γ ⟨d, .next x false, ty, pos, af, g⟩ e H (fun u H' => u = .tuple #[.bool false] ∧ H' = H) := fun w hw => by
 refine tX (aDz i hx hr hb hold hsc w hw) ?_
 rintro v w' ⟨H', h1, ⟨_, h2, h3⟩ | ⟨y, hy, _⟩⟩
 ·exact ⟨H', h1, h2, h3⟩
 ·rw [h0] at hy; cases hy
def aN2 {x : AK} {r since c0 : Nat} {seen : AE} (i : Nat) (hx : bC (ev e x) = some (.pointer (some ⟨r, 0, none⟩))) (hr : H[i]? = some (r, oQ b since seen c0)) (hb : (b, dL k l c) ∈ H) (hold : ∀ y ∈ l, y.2.2 < since) (hsc : since ≤ c0) (h0 : pU l seen ≠ []) :
  dZ Γ ⟨d, .next x false, ty, pos, af, g⟩ e H (fun u H' => ∃ y, y ∈ pU l seen ∧ u = .tuple #[.bool true, .int k y.1, y.2.1] ∧ H' = H.set i (r, oQ b since (seen ++ [y.2.2]) c)) := fun w hw => by
 refine tX (aDz i hx hr hb hold hsc w hw) ?_
 rintro v w' ⟨H', h1, ⟨h2, _⟩ | ⟨y, hy, h2, h3⟩⟩
 ·exact absurd h2 h0
 ·exact ⟨H', h1, y, hy, h2, h3⟩
def aGJ {x : AK} {r since : Nat} {seen : AE} {y : hU} (hx : bC (ev e x) = some (.pointer (some ⟨r, 0, none⟩))) (hr : (r, oQ b since (seen ++ [y.2.2]) c) ∈ H) (hb : (b, dL k l c) ∈ H) (hy : y ∈ l) (hn : (l.map (·.2.2)).Nodup) :
  dZ Γ ⟨d, .entry x, ty, pos, af, g⟩ e H (fun u H' => u = .tuple #[.int k y.1, y.2.1] ∧ H' = H) := by
 intro w hw
 have hr' : w.heap[r]? = some (oQ b since (seen ++ [y.2.2]) c) := hw.holds (r, _) hr
 have hb' : w.heap[b]? = some (dL k l c) := hw.holds (b, _) hb
 have e1 : (seen ++ [y.2.2]).toArray = seen.toArray.push y.2.2 := (List.push_toArray ..).symm
 unfold oQ at hr'
 rw [e1] at hr'
 have hrun := run_entry_at (P := Γ.P) w r b since seen.toArray (l.map (mC k)).toArray c (mC k y) hr' hb' (by rw [eu]; exact List.mem_map.2 ⟨y, hy, rfl⟩) (by rw [eu, jy]; exact hn)
 refine gX (v := .tuple #[.int k y.1, y.2.1]) (w' := w) ?_ ⟨H, hw, U, U⟩
 simp only [execOp, bT hx, ay, hrun, au, ca]
 rfl
def aJz {t kt el : AJ} {m x : AK} {a : Int} {ts : Array AJ} (i : Nat) (hu : An Γ.P t = some (kt, el, k)) (hts : ts = #[t, kt]) (hm : bC (ev e m) = some (.map (some b))) (hx : bC (ev e x) = some (.int k a)) (hi : H[i]? = some (b, dL k l c)) :
  dZ Γ ⟨d, .call ⟨.builtin .delete, #[m, x], ts⟩, ty, pos, af, g⟩ e H (fun u H' => u = .tuple #[] ∧ H' = H.set i (b, dL k (oY a l) c)) := by
 intro w hw
 subst hts
 obtain ⟨h1, h2⟩ := Ib hu
 have hb : w.heap[b]? = some (dL k l c) := hw.holds (b, _) (cw hi)
 obtain ⟨h3, h4⟩ := aAY k a l 0
 have key : (Builtin.delete_ #[t, kt] ty #[.map (some b), .int k a]).run Γ.P w = .ok (.tuple #[]) { w with heap := w.heap.setIfInBounds b (dL k (oY a l) c) } := by
  unfold Builtin.delete_
  simp only [dx, fj, eq, ay, run_underlying h1, au, Ue hb, Nf h2, eu, Th h2]
  cases hf : kI a l 0 with
  | none =>
   rw [h4 hf]
   show (setObj b (dL k l c) >>= fun _ => pure (Value.tuple #[])).run Γ.P w = _
   rw [ay, F8 hb, au, ca]
  | some p =>
   obtain ⟨j, v⟩ := p
   have hj : j < l.length := by have := aD4 a l 0 j v hf; omega
   have e1 : ((l.map (mC k)).toArray.eraseIdxIfInBounds j) = ((oY a l).map (mC k)).toArray := by
    have := (h3 j v hf).2
    rw [Nat.sub_zero] at this
    rw [← this]
    simp [Array.eraseIdxIfInBounds, hj]
   simp only [e1]
   show (setObj b (dL k (oY a l) c) >>= fun _ => pure (Value.tuple #[])).run Γ.P w = _
   rw [ay, F8 hb, au, ca]
 refine gX (v := .tuple #[]) (w' := { w with heap := w.heap.setIfInBounds b (dL k (oY a l) c) }) ?_ ⟨_, hw.setObj (o' := dL k (oY a l) c) hi, U, U⟩
 simp only [execOp, resolve, ay, ca, au, invoke, builtin, dj, cu, dk, bT hm, bT hx, key]
end
def World.ext_run {P : AL} {e : bB} {f : Nat} {l : AF} {ts : Array AJ} {d : AD} {t : AJ} {pos : String} {af : AG} {g : Option (Nat × Bool)} {w w' : AI} {v : AH} {vs : AA}
  (hv : lI e l = some vs) (h : (callFunc f vs.toArray).run P w = .ok (.value v) w') : (execOp (ev e) ⟨d, .call ⟨.value (.func f), l.toArray, ts⟩, t, pos, af, g⟩).run P w = .ok (.value v) w' := by
 rw [← Cd hv] at h
 simpa [execOp, resolve, Deferred.ofValue, ev, invoke, bind, Sem.bind, Sem.run, pure] using h
section
variable {Γ : dQ} {e : bB} {H : aF} {d : AD} {ty : AJ} {pos : String} {af : AG} {g : Option (Nat × Bool)} {f : Nat} {fn : Func} {l : AF} {ts : Array AJ} {b off : Nat} {cs : AA} {T : AJ}
def St.setIx {w0 w : AI} {ms : AE} {H : aF} (hw : St w0 ms H w) (i : Nat) (hi : H[i]? = some (b, J cs T)) (v : AH) : St w0 ms (H.set i (b, J (cs.set off v) T)) (w.setCell ⟨b, off, none⟩ v) := by
 have hg : w.heap[b]? = some (J cs T) := hw.own_blk (cw hi)
 exact hw.setAt hi U U U (by simp [World.setCell]) (fun k hk => aBY k hk) (aEL hg v)
def aOE (i : Nat) (k : AM) {x y s : Int} (hf : Γ.P.funcs[f]? = some fn) (hname : (fn.name == "runtime.NumGoroutine") = false) (hb : fn.body.isNone = true) (hn : Extern.findNext fn = none)
  (he : Extern.find fn = some (Extern.Atomic.update (Op.intArith .add) k true)) (hv : lI e l = some [.pointer (some ⟨b, off, none⟩), .int k y]) (hi : H[i]? = some (b, J cs T)) (hc : cs[off]? = some (.int k x))
  (hs : eR Γ.P (Op.intArith .add k x y) = some (.int k s)) :
  dZ Γ ⟨d, .call ⟨.value (.func f), l.toArray, ts⟩, ty, pos, af, g⟩ e H (fun u H' => u = .int k s ∧ H' = H.set i (b, J (cs.set off (.int k s)) T)) := fun w hw => by
 have hg : w.heap[b]? = some (J cs T) := hw.own_blk (cw hi)
 exact gX (World.ext_run hv (run_call_add hf hname hb hn k he (by rw [uO hg]; simpa using hc) (Ob hg) (C0 hs w))) ⟨_, hw.setIx i hi _, U, U⟩
end
def Cx {P : AL} {b : Frame} {a : Act} {k : List Item} {cs : List Frame} {w : AI} {c : Code} : step P (lone (b.atR a (.code (.scope c) :: k)) cs w) = .next (lone (b.atR a (.code c :: .inScope c :: k)) cs w) :=
 step_lone_go (by simp [stepG, stepG.exec, Frame.atR])
def V0 {P : AL} {b : Frame} {a : Act} {k : List Item} {cs : List Frame} {w : AI} {c : Code} : step P (lone (b.atR a (.inScope c :: k)) cs w) = .next (lone (b.atR a k) cs w) :=
 step_lone_go (by simp [stepG, stepG.exec, Frame.atR])
def aGs {F : Fence} {n : Nat} {P : AL} {Q : Exit → Act → AI → Prop} {a : Act} {w : AI} {c rest : Code} (l : Nat) (J : Act → AI → Prop) (μ : Act → AI → Nat) (hf : findLabel c l = some rest)
  (first : c.wpIn F n P (Exit.jump l J Q) a w)
  (pass : ∀ a w, J a w → rest.wpIn F n P (Exit.jump l (fun a' w' => J a' w' ∧ μ a' w' < μ a w) Q) a w) : (Code.scope c).wpIn F n P Q a w := by
 intro b k cs hro hb hr
 have hg : gotoIn l (.inScope c :: k) = some (.code rest :: .inScope c :: k) := by simp [gotoIn, hf]
 have hx : ∀ id, exitTo id (.inScope c :: k) = exitTo id k := fun id => by simp [exitTo]
 have key : ∀ j a w, μ a w = j → J a w → ∃ e a' w', Q e a' w' ∧ ArrivesIn (Machine.fenced P F) P (lone (b.atR a (.code rest :: .inScope c :: k)) cs w) b k cs e a' w' := by
  intro j
  induction j using Nat.strongRecOn with
  | _ j ih =>
   intro a w hn hJ
   obtain ⟨e, a₁, w₁, hq, harr⟩ := pass a w hJ b (.inScope c :: k) cs hro hb hr
   cases e with
   | normal => exact ⟨.normal, a₁, w₁, hq, StepsIn.trans harr (.one (fenced_calm hb hr rfl) V0)⟩
   | exit id => exact ⟨.exit id, a₁, w₁, hq, fun k' hk => harr.1 k' (by rw [hx]; exact hk), fun h1 hk => harr.2 h1 (by rw [hx]; exact hk)⟩
   | goto l' =>
    obtain ⟨rfl, hJ', hlt⟩ := hq
    obtain ⟨e₂, a₂, w₂, hq₂, harr₂⟩ := ih _ (by omega) a₁ w₁ rfl hJ'
    exact ⟨e₂, a₂, w₂, hq₂, .of_steps (harr.1 _ hg) harr₂⟩
   | ret => exact ⟨_, a₁, w₁, hq, harr⟩
   | panic ch => exact ⟨_, a₁, w₁, hq, harr⟩
   | outgrown => exact ⟨_, a₁, w₁, hq, harr⟩
 have h0 : (lone (b.atR a (.code (.scope c) :: k)) cs w).fenced P F := fenced_calm hb hr rfl
 obtain ⟨e, a₁, w₁, hq, harr⟩ := first b (.inScope c :: k) cs hro hb hr
 cases e with
 | normal => exact ⟨.normal, a₁, w₁, hq, .head h0 Cx (StepsIn.trans harr (.one (fenced_calm hb hr rfl) V0))⟩
 | exit id => exact ⟨.exit id, a₁, w₁, hq, fun k' hk => .head h0 Cx (harr.1 k' (by rw [hx]; exact hk)), fun h1 hk => let ⟨k₁, h2, h3⟩ := harr.2 h1 (by rw [hx]; exact hk); ⟨k₁, h2, .head h0 Cx h3⟩⟩
 | goto l' =>
  obtain ⟨rfl, hJ'⟩ := hq
  obtain ⟨e₂, a₂, w₂, hq₂, harr₂⟩ := key _ a₁ w₁ rfl hJ'
  exact ⟨e₂, a₂, w₂, hq₂, .of_steps (.head h0 Cx (harr.1 _ hg)) harr₂⟩
 | ret => exact ⟨_, a₁, w₁, hq, .of_steps (.one h0 Cx) harr⟩
 | panic ch => exact ⟨_, a₁, w₁, hq, .of_steps (.one h0 Cx) harr⟩
 | outgrown => exact ⟨_, a₁, w₁, hq, .of_steps (.one h0 Cx) harr⟩
def aNZ {Γ : dQ} {k : fT} {e : bB} {L : aF} {σ : Type} {c B : Code} (l : Nat) (M : AE) (vs : σ → List (Nat × AH)) (H : σ → aF) (J : σ → Prop) (μ : σ → Nat) (hf : findLabel c l = some (.seq .skip B)) (hX : ∀ j, oX k.X (2 * j + 1) = none)
    (first : (∀ s e1 L1, J s → nW e1 (vs s) → jJ M e1 e → (∀ w, St Γ.w0 Γ.ms L1 w → St Γ.w0 Γ.ms (H s) w) →
        C Γ B ⟨k.N, k.R, (2 * l + 1, fun e' L' => ∃ s, J s ∧ nW e' (vs s) ∧ jJ M e' e ∧ (∀ w, St Γ.w0 Γ.ms L' w → St Γ.w0 Γ.ms (H s) w)) :: k.X⟩ e1 L1) →
      C Γ c ⟨k.N, k.R, (2 * l + 1, fun e' L' => ∃ s, J s ∧ nW e' (vs s) ∧ jJ M e' e ∧ (∀ w, St Γ.w0 Γ.ms L' w → St Γ.w0 Γ.ms (H s) w)) :: k.X⟩ e L)
    (pass : ∀ s x, J s → C Γ B ⟨k.N, k.R, (2 * l + 1, fun e' L' => ∃ s', J s' ∧ μ s' < μ s ∧ nW e' (vs s') ∧ jJ M e' e ∧ (∀ w, St Γ.w0 Γ.ms L' w → St Γ.w0 Γ.ms (H s') w)) :: k.X⟩ (mix M (vs s) x e) (H s)) :
    C Γ (.scope c) k e L := by
  have hp : ∀ s e1 L1, J s → nW e1 (vs s) → jJ M e1 e → (∀ w, St Γ.w0 Γ.ms L1 w → St Γ.w0 Γ.ms (H s) w) →
        C Γ B ⟨k.N, k.R, (2 * l + 1, fun e' L' => ∃ s, J s ∧ nW e' (vs s) ∧ jJ M e' e ∧ (∀ w, St Γ.w0 Γ.ms L' w → St Γ.w0 Γ.ms (H s) w)) :: k.X⟩ e1 L1 := fun s e1 L1 hJ hs hA hH => by
    rw [Es hs hA]
    refine kG hH (aCj (pass s e1 hJ) ?_)
    rintro (_ | id | l' | _ | _ | _) e2 L2 h2 <;> simp only [fT.at] at h2 ⊢
    · exact h2
    · rw [yM (by omega)] at h2 ⊢; exact h2
    · by_cases hl : l' = l
      · subst hl
        rw [Ih] at h2 ⊢
        obtain ⟨s', h3, _, h4⟩ := h2
        exact ⟨s', h3, h4⟩
      · rw [yM (by omega)] at h2 ⊢; exact h2
    · exact h2
  have first := first hp
  intro a w ha hw
  classical
  let I : σ → Act → AI → Prop := fun s a w => J s ∧ ∃ x, kX Γ.n Γ.D (mix M (vs s) x e) a ∧ St Γ.w0 Γ.ms (H s) w
  let p : Act → AI → Nat → Prop := fun a w m => ∃ i, I i a w ∧ μ i = m
  let f : Act → AI → Nat := fun a w => if h : ∃ m, p a w m then Classical.choose (Tp h) else 0
  have hff : ∀ a w, (∃ m, p a w m) → p a w (f a w) ∧ ∀ k, k < f a w → ¬ p a w k := fun a w h => by
    have := Classical.choose_spec (Tp h)
    simp only [f, dif_pos h]
    exact this
  refine aGs l (fun a w => ∃ s, I s a w) f hf ?_ ?_
  · refine wpIn_mono (first a w ha hw) ?_
    rintro ex a' w' ⟨e', L', h1, h2, h3⟩
    cases ex <;> simp only [fT.at, Exit.jump] at h3 ⊢
    case normal => exact ⟨e', L', h1, h2, h3⟩
    case ret => exact ⟨e', L', h1, h2, h3⟩
    case exit id => rw [yM (by omega)] at h3; exact ⟨e', L', h1, h2, h3⟩
    case goto l' =>
      by_cases hl : l' = l
      · subst hl
        rw [Ih] at h3
        obtain ⟨s, hJ, hs, hA, hH⟩ := h3
        exact ⟨U, s, hJ, e', by rw [← Es hs hA]; exact h1, hH _ h2⟩
      · rw [yM (by omega), hX] at h3
        exact h3.elim
  · intro a w hI
    obtain ⟨i1, hi1⟩ := hI
    obtain ⟨⟨s, ⟨hJ, x, ha, hw⟩, hm⟩, _⟩ := hff a w ⟨_, i1, hi1, rfl⟩
    refine wpIn_mono (N0 (aBs (k := ⟨fun e L => C Γ B _ e L, _, _⟩) (pass s x hJ)) a w ha hw) ?_
    rintro ex a' w' ⟨e', L', h1, h2, h3⟩
    cases ex <;> simp only [fT.at, Exit.jump] at h3 ⊢
    case normal => exact ⟨e', L', h1, h2, h3⟩
    case ret => exact ⟨e', L', h1, h2, h3⟩
    case exit id => rw [yM (by omega)] at h3; exact ⟨e', L', h1, h2, h3⟩
    case goto l' =>
      by_cases hl : l' = l
      · subst hl
        rw [Ih] at h3
        obtain ⟨s', hJ', hlt, hs, hA, hH⟩ := h3
        have hI' : I s' a' w' := ⟨hJ', e', by rw [← Es hs hA]; exact h1, hH _ h2⟩
        refine ⟨U, ⟨s', hI'⟩, ?_⟩
        have h4 := (hff a' w' ⟨_, s', hI', rfl⟩).2
        rcases dt (f a' w') (f a w) with h5 | h5
        · exact h5
        · exact absurd ⟨s', hI', U⟩ (h4 (μ s') (by omega))
      · rw [yM (by omega), hX] at h3
        exact h3.elim
section
variable {Γ : dQ} {e : bB} {H : aF} {d : AD} {ty : AJ} {pos : String} {af : AG} {g : Option (Nat × Bool)}
def aJm {t kt el : AJ} {m x : AK} {b c j : Nat} {k : AM} {a : Int} {v : AH} {l : List hU} (hu : An Γ.P t = some (kt, el, k)) (hm : bC (ev e m) = some (.map (some b))) (hx : bC (ev e x) = some (.int k a))
  (hf : kI a l 0 = some (j, v)) (hi : (b, dL k l c) ∈ H) : dZ Γ ⟨d, .lookup t m x false, ty, pos, af, g⟩ e H (fun u H' => u = v ∧ H' = H) := by
 intro w hw
 obtain ⟨h1, h2⟩ := Ib hu
 have hm := bT hm
 have hx := bT hx
 have hb : w.heap[b]? = some (dL k l c) := hw.holds (b, _) hi
 refine gX (v := v) (w' := w) ?_ ⟨_, hw, U, U⟩
 have key : (Instr.lookup t (.map (some b)) (.int k a) false).run Γ.P w = .ok v w := by
  unfold Instr.lookup
  simp only [ay, run_underlying h1, au, Ue hb, Nf h2, ca, eu, Th h2, hf]
  rfl
 simp only [execOp, hm, hx, ay, key, au, ca]
end
end Go.VV
