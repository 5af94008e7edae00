/- One cell of a block of one's own turns. Plain lemmas; no program. -/
import Derived.Laws.BytesArg
import Derived.Laws.Strings2
import Derived.Laws.StructEq
import Derived.Laws.World
import Derived.Lib.SmallJoins
import Derived.OpenShut
import Derived.ProofKit
import Derived.RangeFuncRecord
import Derived.Room.Entries
import Derived.WalkKit
import Derived.Test.YtldehodcfajpjaaGreatQcB
set_option linter.unusedSimpArgs false
set_option linter.unusedVariables false
set_option maxRecDepth 100000
namespace Go.VV
open Go
section
variable {P : Program} {Γ : Ctx} {k : Kont} {e : Env} {H F : Heap} {ops rest : List Oper} {d : Option Nat} {op : Op} {t : TypeId} {pos : String} {af : Array Edge} {g : Option (Nat × Bool)}
 {need : List Nat} {pl : Plan} {i : Nat}
theorem l_sure {b : Bool} (c : Bool) (hl : light Γ.P e ⟨d, op, t, pos, af, g⟩ = some (.bool b)) (hg : gdB ops e ⟨d, op, t, pos, af, g⟩ = true) (hd : dstOk Γ.n d = true) (hb : b = c)
  (h : L1 Γ ops rest k (e.put d (.bool c)) H) : L1 Γ ops (⟨d, op, t, pos, af, g⟩ :: rest) k e H := by subst hb; exact l_l hl hg hd h
theorem d_sure {b : Bool} {S : World → Prop} (c : Bool) (ho : ops[i]? = some ⟨d, op, t, pos, af, g⟩) (hl : light Γ.P e ⟨d, op, t, pos, af, g⟩ = some (.bool b)) (hg : gdB ops e ⟨d, op, t, pos, af, g⟩ = true) (hd : dstOk Γ.n d = true) (hb : b = c)
  (h : L2 Γ ops S need pl k (e.put d (.bool c)) H) : L2 Γ ops S need (.step true i pl) k e H := by subst hb; exact d_light ho hl rfl hg hd h
theorem c_sure {c : Operand} {x y : Code} {t : Bool} (b : Bool) (hc : ev e c = .bool t) (hb : t = b) (h : C Γ (if b then x else y) k e H) : C Γ (.cond c x y) k e H := by
 subst hb
 exact c_cond hc (fun ht => by rw [ht] at h; exact h) (fun ht => by rw [ht] at h; exact h)
theorem l_as {v u : Value} (hl : light Γ.P e ⟨d, op, t, pos, af, g⟩ = some u) (hg : gdB ops e ⟨d, op, t, pos, af, g⟩ = true) (hd : dstOk Γ.n d = true) (hv : u = v)
  (h : L1 Γ ops rest k (e.put d v) H) : L1 Γ ops (⟨d, op, t, pos, af, g⟩ :: rest) k e H := by subst hv; exact l_l hl hg hd h
theorem d_as {v u : Value} {S : World → Prop} (ho : ops[i]? = some ⟨d, op, t, pos, af, g⟩) (hl : light Γ.P e ⟨d, op, t, pos, af, g⟩ = some u) (hu : notTuple u = true) (hg : gdB ops e ⟨d, op, t, pos, af, g⟩ = true) (hd : dstOk Γ.n d = true) (hv : u = v)
  (h : L2 Γ ops S need pl k (e.put d v) H) : L2 Γ ops S need (.step true i pl) k e H := by subst hv; exact d_light ho hl hu hg hd h
theorem l_mv {x : Operand} {v : Value} (hx : ev e x = v) (hg : gdB ops e ⟨d, .move x, t, pos, af, g⟩ = true) (hd : dstOk Γ.n d = true)
  (h : L1 Γ ops rest k (e.put d v) H) : L1 Γ ops (⟨d, .move x, t, pos, af, g⟩ :: rest) k e H :=
 l_op (K := fun u H' => u = v ∧ H' = H) hg hd (fun _ hw => opW_run (by simp only [execOp]; rw [hx]; rfl) ⟨H, hw, rfl, rfl⟩) (by rintro _ _ ⟨rfl, rfl⟩; exact h)
theorem l_as' {x : Operand} {v : Value} (hx : ev e x = v) (hg : gdB ops e ⟨d, .assign x, t, pos, af, g⟩ = true) (hd : dstOk Γ.n d = true)
  (h : L1 Γ ops rest k (e.put d v) H) : L1 Γ ops (⟨d, .assign x, t, pos, af, g⟩ :: rest) k e H :=
 l_op (K := fun u H' => u = v ∧ H' = H) hg hd (fun _ hw => opW_run (by simp only [execOp]; rw [hx]; rfl) ⟨H, hw, rfl, rfl⟩) (by rintro _ _ ⟨rfl, rfl⟩; exact h)
theorem d_mv {S : World → Prop} {x : Operand} {v : Value} (ho : ops[i]? = some ⟨d, .move x, t, pos, af, g⟩) (hx : ev e x = v) (hg : gdB ops e ⟨d, .move x, t, pos, af, g⟩ = true) (hd : dstOk Γ.n d = true)
  (h : L2 Γ ops S need pl k (e.put d v) H) : L2 Γ ops S need (.step true i pl) k e H :=
 d_yield ho hg hd (fun w _ => by simp only [execOp]; rw [hx]; rfl) h
theorem d_as' {S : World → Prop} {x : Operand} {v : Value} (ho : ops[i]? = some ⟨d, .assign x, t, pos, af, g⟩) (hx : ev e x = v) (hg : gdB ops e ⟨d, .assign x, t, pos, af, g⟩ = true) (hd : dstOk Γ.n d = true)
  (h : L2 Γ ops S need pl k (e.put d v) H) : L2 Γ ops S need (.step true i pl) k e H :=
 d_yield ho hg hd (fun w _ => by simp only [execOp]; rw [hx]; rfl) h
theorem x_val {f : Nat} {l : List Operand} {ts : Array TypeId} {vs : List Value} {u : Value} (hc : callable Γ.P f = true) (hv : evs e l = some vs)
  (hf : ∀ w, St Γ.w0 Γ.ms H w → Does Γ.P f vs w [] (fun v H => H = [] ∧ v = u)) :
  Op1 Γ ⟨d, .call ⟨.value (.func f), l.toArray, ts⟩, t, pos, af, g⟩ e H (fun v H' => v = u ∧ H' = H) := fun w hw => by
 refine opW_mono (x_call hc hv hf w hw) ?_
 rintro v w' ⟨H', h1, H2, ⟨h2, h3⟩, h4⟩
 subst h2 h4
 exact ⟨_, h1, h3, rfl⟩
def byteP (P : Program) (el c : Nat) : Bool := match P.info? el with
 | some i => Nat.ble (c * i.bytes) 140737488355328 && Nat.blt 0 i.bytes
 | none => false
theorem byteP_spec {P : Program} {el c : Nat} (h : byteP P el c = true) : ∃ i, P.info? el = some i ∧ c * i.bytes ≤ 140737488355328 ∧ 0 < i.bytes := by
 unfold byteP at h
 split at h
 ·rename_i i hi
  simp only [Bool.and_eq_true] at h
  exact ⟨i, hi, Nat.le_of_ble_eq_true h.1, Nat.lt_of_lt_of_le (Nat.zero_lt_one) (Nat.le_of_ble_eq_true h.2)⟩
 ·cases h
theorem x_make {tt el n s : Nat} {x y : Operand} {k1 k2 : IntKind} {a b : Int} {z : List Value} {c : Nat} (hx : vnf (ev e x) = some (.int k1 a)) (hy : vnf (ev e y) = some (.int k2 b)) (ha : a = (n : Int)) (hb : b = (c : Int)) (hnc : n ≤ c)
  (hu : slcP Γ.P tt = some (el, s)) (hz : zeroP Γ.P el = some z) (hpos : Nat.blt 0 (c * s) = true) (hby : byteP Γ.P el c = true) :
  Op1 Γ ⟨d, .makeSlice tt x y, t, pos, af, g⟩ e H (fun u H' => ∃ b, u = .slice (some ⟨b, 0, none⟩) n c ∧ H' = (b, blk (repL (c * s) z) el) :: H) := by
 intro w hw
 obtain ⟨h1, h2⟩ := slcP_spec hu
 have hx := vnf_eq hx
 have hy := vnf_eq hy
 obtain ⟨zv, hzv, hzc⟩ := run_zero hz w
 obtain ⟨i, hi, hb2, hb3⟩ := byteP_spec hby
 have hpos : 0 < c * s := Nat.lt_of_lt_of_le (Nat.zero_lt_one) (Nat.le_of_ble_eq_true hpos)
 subst ha hb
 have hc : c ≤ 140737488355328 := Nat.le_trans (Nat.le_mul_of_pos_right c hb3) hb2
 have hw1 : IntKind.i64.wrap (n : Int) = n := wrap_i64 (by omega) (by omega)
 have hw2 : IntKind.i64.wrap (c : Int) = c := wrap_i64 (by omega) (by omega)
 have key : (Instr.makeSlice tt (.int k1 n) (.int k2 c)).run Γ.P w = .ok (.slice (some ⟨w.heap.size, 0, none⟩) n c) (w.alloc (blk (repL (c * s) z) el)) := by
  unfold Instr.makeSlice
  have e1 : (typeInfo el).run Γ.P w = .ok i w := by simp [typeInfo, hi]
  have e2 : ((i.bytes : Int) * (c : Int)) ≤ 140737488355328 := by
   rw [← Int.natCast_mul, Nat.mul_comm]; exact Int.ofNat_le.2 hb2
  have hbad : (decide ((c : Int) < 0) || decide ((i.bytes : Int) * (c : Int) > 281474976710656) || decide ((n : Int) < 0) || decide ((n : Int) > c)) = false := by
   simp only [Bool.or_eq_false_iff, decide_eq_false_iff_not]
   refine ⟨⟨⟨by omega, by omega⟩, by omega⟩, by omega⟩
  have hcz : ¬ c * s = 0 := by omega
  simp only [Sem.run_bind, run_underlying h1, Result.andThen_ok, asInt, asIntOf, Sem.run_pure, e1, hw1, hw2]
  have hpow : ((2 : Int) ^ 48) = 281474976710656 := by decide
  simp only [hpow, hbad, Bool.false_eq_true, if_false, Sem.run_bind, run_askRoom, run_sizeOf h2, Result.andThen_ok, Int.toNat_natCast, hcz, hzv, Sem.run_pure, hzc, repL_eq]
  rfl
 refine opW_run (v := .slice (some ⟨w.heap.size, 0, none⟩) n c) (w' := w.alloc (blk (repL (c * s) z) el)) ?_ ⟨_, hw.alloc _, _, rfl, rfl⟩
 simp only [execOp, hx, hy, Sem.run_bind, key, Result.andThen_ok, Sem.run_pure]
def Gives (G : Heap) (k : IntKind) (a : Option Addr) (l : List Int) : Prop :=
 0 < l.length → ∃ b off, a = some ⟨b, off, none⟩ ∧ ∀ w : World, (∀ x ∈ G, w.heap[x.1]? = some x.2) → Row w b off (l.map (.int k))
theorem Gives.nil (G : Heap) (k : IntKind) (a : Option Addr) : Gives G k a [] := fun h => by simp at h
theorem Gives.row {G : Heap} {k : IntKind} {a : Option Addr} {l : List Int} (h : Gives G k a l) {i : Nat} (hi : i < l.length) :
  ∃ b off, a = some ⟨b, off, none⟩ ∧ ∀ w : World, (∀ x ∈ G, w.heap[x.1]? = some x.2) → Row w b off (l.map (.int k)) := h (by omega)
theorem at_gives {G : Heap} {w0 : World} {ms : List Nat} {k : IntKind} {b off : Nat} {l : List Int} (hr : ∀ w : World, (∀ x ∈ G, w.heap[x.1]? = some x.2) → Row w b off (l.map (.int k))) (hs : ∀ x ∈ G, x ∈ H) {i : Nat} (hi : i < l.length) :
  ∀ w, St w0 ms H w → w.cell? ⟨b, off + i, none⟩ = some (.int k (l.getD i 0)) := fun w hw => (hr w fun x hx => hw.holds x (hs x hx)).int hi
def Lst (k : IntKind) (l : List Int) (v : Value) (H : Heap) : Prop := ∃ a c, v = .slice a l.length c ∧ l.length ≤ c ∧ Gives H k a l
theorem Lst.nil {k : IntKind} : Lst k [] (.slice none 0 0) [] := ⟨none, 0, rfl, Nat.le_refl _, .nil _ _ _⟩
theorem Lst.of_row {k : IntKind} {l : List Int} {b n c T : Nat} {L : List Value} {fr : Nat × Nat} (hn : n = l.length) (hc : l.length ≤ c) (hl : ∀ (j : Nat) (v : Value), (l.map (Value.int k))[j]? = some v → L[j]? = some v) :
  Lst k l (.slice (some ⟨b, 0, none⟩) n c) [(b, .cells L.toArray T fr)] := by
 subst hn
 refine ⟨_, c, rfl, hc, fun _ => ⟨b, 0, rfl, fun w hw => ?_⟩⟩
 exact Row.of_blk (cs := L.toArray) (t := T) (fr := fr) (hw _ (.head _)) (fun j v hv => by simpa using hl j v hv)
theorem repL_one (n : Nat) (z : Value) : repL n [z] = List.replicate n z := by
 apply List.ext_getElem
 ·simp [repL]
 ·intro i h1 h2
  simp [repL, Nat.mod_one]
end
theorem equal_bool {P : Program} {t : TypeId} {a b : Bool} (hu : P.underlying t = some .bool) : pureOf P (Op.equal t (.bool a) (.bool b)) = some (a == b) := by
 obtain ⟨n, hn⟩ : ∃ n, Op.maxDepth = n + 1 := ⟨9999, rfl⟩
 unfold Op.equal
 rw [hn]
 simp only [Op.equalIn]
 rw [pure_underlying hu]
 rfl
theorem pure_bound {α β : Type} {P : Program} {s : Sem α} {f : α → Sem β} {a : α} (h : pureOf P s = some a) : pureOf P (s >>= f) = pureOf P (f a) := by
 induction s with
 | pure b => simp only [pureOf] at h; cases h; rfl
 | program k ih => simp only [pureOf] at h; exact ih P h
 | _ => simp [pureOf] at h
section
variable {P : Program} {e : Env} {d : Option Nat} {x y : Operand} {t ty : TypeId} {u : TypeId} {pos : String} {af : Array Edge} {g : Option (Nat × Bool)} {a b : Bool}
theorem light_eqb (hx : vnf (ev e x) = some (.bool a)) (hy : vnf (ev e y) = some (.bool b)) (hu : P.underlying t = some .bool) :
  light P e ⟨d, .binOp .eql t x y u, ty, pos, af, g⟩ = some (.bool (a == b)) := by
 refine light_of_pure ?_ rfl
 have hx := vnf_eq hx
 have hy := vnf_eq hy
 have key := equal_bool (a := a) (b := b) hu
 generalize hE : Op.equal t (.bool a) (.bool b) = E at key
 simp only [execOp, hx, hy]
 unfold eqGuard binOp
 simp only [hE]
 simp only [Bool.not_true, Bool.false_eq_true, if_false, pure_bind, bind_assoc]
 exact (pure_bound key).trans rfl
end
theorem c_keep {Γ : Ctx} {k : Kont} {e : Env} {L : Heap} {x y : Code} (M : List Nat) (vs : List (Nat × Value))
  (h1 : C Γ x ⟨fun e' L' => Sits e' vs ∧ Agree M e' e ∧ (∀ w, St Γ.w0 Γ.ms L' w → St Γ.w0 Γ.ms L w), k.R, k.X⟩ e L)
  (h2 : ∀ u, C Γ y k (mix M vs u e) L) : C Γ (.seq x y) k e L :=
 c_cut (σ := Unit) M (fun _ => vs) (fun _ => L) (fun _ => True) (c_mono h1 (by rintro (_ | _ | j) e' L' h <;> first | exact ⟨(), trivial, h.1, h.2.1, h.2.2⟩ | exact h)) (fun _ u _ => h2 u)
theorem Agree.keep {M M' : List Nat} {vs : List (Nat × Value)} {x e e0 : Env} (hs : (M'.all (fun t => M.any (Nat.beq t)) && vs.all (fun p => M.any (Nat.beq p.1))) = true) (h : Agree M e e0) : Agree M (VV.mix M' vs x e) e0 := by
 simp only [Bool.and_eq_true, List.all_eq_true] at hs
 intro t ht
 unfold VV.mix
 cases hq : vs.find? (fun p => Nat.beq p.1 t) with
 | some p =>
  exfalso
  have h1 := List.mem_of_find?_eq_some hq
  have h2 := hs.2 p h1
  have h3 : Nat.beq p.1 t = true := by have := List.find?_some hq; simpa using this
  rw [Nat.eq_of_beq_eq_true h3, ht] at h2
  cases h2
 | none =>
  cases hm : M'.any (Nat.beq t) with
  | false => exact h t ht
  | true =>
   exfalso
   obtain ⟨u, hu, hb⟩ := List.any_eq_true.1 hm
   have h2 := hs.1 u hu
   rw [← Nat.eq_of_beq_eq_true hb, ht] at h2
   cases h2
theorem c_loopk {Γ : Ctx} {k : Kont} {e : Env} {L : Heap} {σ : Type} {c : Code} (M : List Nat) (vs : σ → List (Nat × Value)) (J : σ → Prop) (μ : σ → Nat) (s0 : σ)
  (h0 : J s0) (hv : Sits e (vs s0))
  (round : ∀ s x, J s → C Γ c ⟨fun e' L' => ∃ s', J s' ∧ μ s' < μ s ∧ Sits e' (vs s') ∧ Agree M e' e ∧ (∀ w, St Γ.w0 Γ.ms L' w → St Γ.w0 Γ.ms L w), k.R, k.X⟩ (mix M (vs s) x e) L) :
  C Γ (.loop c) k e L := c_loop M vs (fun _ => L) J μ s0 h0 hv (fun _ h => h) round
theorem run_callV {P : Program} {e : Env} {f : Nat} {x : Operand} {A B : Array Value} {l : List Operand} {ts : Array TypeId} {d : Option Nat} {t : TypeId} {pos : String} {af : Array Edge} {g : Option (Nat × Bool)}
  (hx : ev e x = .func (.func f) A B) (hc : callable P f = true) (w : World) :
  (execOp (ev e) ⟨d, .call ⟨.value x, l.toArray, ts⟩, t, pos, af, g⟩).run P w = .ok (.enter f (A ++ (l.map (ev e)).toArray ++ B)) w := by
 unfold callable at hc
 split at hc
 ·rename_i fn hf
  simp only [Bool.and_eq_true, Bool.not_eq_true'] at hc
  obtain ⟨h1, h2⟩ := hc
  have hs : (program : Sem Program) = .program .pure := rfl
  have h3 : ¬ fn.name = "runtime.NumGoroutine" := by simpa using h1
  have h4 : ¬ fn.body = none := by
   intro hx; rw [hx] at h2; cases h2
  simp [execOp, resolve, Deferred.ofValue, hx, invoke, callFunc, bind, Sem.bind, Sem.run, hf, h3, h4, pure, hs]
 ·cases hc
section
variable {Γ : Ctx} {e : Env} {H F G : Heap} {d : Option Nat} {t : TypeId} {pos : String} {af : Array Edge} {g : Option (Nat × Bool)} {f : Nat} {x : Operand} {l : List Operand} {ts : Array TypeId}
theorem x_callVF {A B : List Value} {vs : List Value} (ms2 : List Nat) (hx : vnf (ev e x) = some (.func (.func f) A.toArray B.toArray)) (hc : callable Γ.P f = true) (hv : evs e l = some vs) {R : Value → Heap → Prop}
  (hms : ∀ b ∈ ms2, ∃ o, (b, o) ∈ F) (hf : ∀ w, St Γ.w0 Γ.ms (F ++ G) w → Does Γ.P f (A ++ vs ++ B) w ms2 R) :
  Op1 Γ ⟨d, .call ⟨.value x, l.toArray, ts⟩, t, pos, af, g⟩ e (F ++ G) (fun v H2 => ∃ H', R v H' ∧ H2 = H' ++ G) := fun w hw => by
 refine opW_enter (run_callV (vnf_eq hx) hc w) ?_
 have : A.toArray ++ (l.map (ev e)).toArray ++ B.toArray = (A ++ vs ++ B).toArray := by
  rw [evs_eq hv]
  simp
 rw [this]
 refine Calls.mono (hf w hw) ?_
 rintro ex w' ⟨v, H', rfl, h1, h2⟩
 exact ⟨v, rfl, _, hw.call hms h1, H', h2, rfl⟩
theorem x_callV {A B : List Value} {vs : List Value} (hx : vnf (ev e x) = some (.func (.func f) A.toArray B.toArray)) (hc : callable Γ.P f = true) (hv : evs e l = some vs) {R : Value → Heap → Prop}
  (hf : ∀ w, St Γ.w0 Γ.ms H w → Does Γ.P f (A ++ vs ++ B) w [] R) :
  Op1 Γ ⟨d, .call ⟨.value x, l.toArray, ts⟩, t, pos, af, g⟩ e H (fun v H2 => ∃ H', R v H' ∧ H2 = H' ++ H) := x_callVF (F := []) [] hx hc hv (by simp) hf
theorem x_valV {A B : List Value} {vs : List Value} {u : Value} (hx : vnf (ev e x) = some (.func (.func f) A.toArray B.toArray)) (hc : callable Γ.P f = true) (hv : evs e l = some vs)
  (hf : ∀ w, St Γ.w0 Γ.ms H w → Does Γ.P f (A ++ vs ++ B) w [] (fun v H' => H' = [] ∧ v = u)) :
  Op1 Γ ⟨d, .call ⟨.value x, l.toArray, ts⟩, t, pos, af, g⟩ e H (fun v H' => v = u ∧ H' = H) := fun w hw => by
 refine opW_mono (x_callV hx hc hv hf w hw) ?_
 rintro v w' ⟨H', h1, H2, ⟨h2, h3⟩, h4⟩
 subst h2 h4
 exact ⟨_, h1, h3, rfl⟩
end
theorem St.lent {w : World} {F : Heap} (hn : (F.map (·.1)).Nodup) (hF : ∀ x ∈ F, w.heap[x.1]? = some x.2) : St w (F.map (·.1)) F w :=
 ⟨rfl, rfl, rfl, Nat.le_refl _, fun _ _ _ => rfl, hn, fun x hx => .inl (List.mem_map.2 ⟨x, hx, rfl⟩), hF⟩
theorem St.lent1 {w : World} {b : Nat} {o : Obj} (h : w.heap[b]? = some o) : St w [b] [(b, o)] w := St.lent (F := [(b, o)]) (by simp) (by simpa using h)
section
variable {α : Type} {c : α → List Value} {s : Nat}
def flat (c : α → List Value) (l : List α) : List Value := l.flatMap c
theorem flat_cons (x : α) (l : List α) : flat c (x :: l) = c x ++ flat c l := rfl
theorem flat_append (a b : List α) : flat c (a ++ b) = flat c a ++ flat c b := by simp [flat]
theorem flat_len (hc : ∀ x, (c x).length = s) (l : List α) : (flat c l).length = l.length * s := by
 induction l with
 | nil => simp [flat]
 | cons x l ih => rw [flat_cons, List.length_append, ih, hc, List.length_cons, Nat.add_mul, Nat.one_mul, Nat.add_comm]
theorem putL_mid (X Y Z y : List Value) (h : Y.length = y.length) : putL (X ++ (Y ++ Z)) X.length y = X ++ (y ++ Z) := by
 unfold putL
 have h1 : (X ++ (Y ++ Z)).take X.length = X := by simp
 have h2 : (X ++ (Y ++ Z)).drop (X.length + y.length) = Z := by
  rw [← h, ← List.append_assoc]
  have : X.length + Y.length = (X ++ Y).length := by simp
  rw [this]; simp
 rw [h1, h2, List.append_assoc]
theorem putL_flat (hc : ∀ x, (c x).length = s) (A B : List α) (x y : α) (sp : List Value) : putL (flat c (A ++ x :: B) ++ sp) (0 + A.length * s) (c y) = flat c (A ++ y :: B) ++ sp := by
 have := putL_mid (flat c A) (c x) (flat c B ++ sp) (c y) (by rw [hc, hc])
 rw [flat_len hc] at this
 simpa [flat_append, flat_cons, List.append_assoc] using this
theorem putL_flat2 (hc : ∀ x, (c x).length = s) (A B : List α) (x y z : α) (sp : List Value) : putL (flat c ((A ++ [x]) ++ y :: B) ++ sp) (0 + (A ++ [x]).length * s) (c z) = flat c (A ++ x :: z :: B) ++ sp := by
 rw [putL_flat hc (A ++ [x]) B y z sp, List.append_assoc]; rfl
theorem flat_fits (hc : ∀ x, (c x).length = s) (A B : List α) (x y : α) (sp : List Value) : 0 + A.length * s + (c y).length ≤ (flat c (A ++ x :: B) ++ sp).length := by
 rw [List.length_append, flat_append, flat_cons, List.length_append, List.length_append, flat_len hc, hc, hc]; omega
theorem Row.elem {w : World} {b off : Nat} {A B : List α} {x : α} {sp : List Value} (hc : ∀ x, (c x).length = s) (h : Row w b off (flat c (A ++ x :: B) ++ sp)) : Row w b (off + A.length * s) (c x) := by
 intro j v hv
 have hj : j < (c x).length := by
  rcases Nat.lt_or_ge j (c x).length with h1 | h1
  ·exact h1
  ·rw [List.getElem?_eq_none h1] at hv; cases hv
 have := h (A.length * s + j) v (by
  rw [flat_append, flat_cons, ← flat_len hc A, List.append_assoc, List.getElem?_append_right (Nat.le_add_right _ _), Nat.add_sub_cancel_left, List.append_assoc, List.getElem?_append_left hj]
  exact hv)
 rw [Nat.add_assoc]; exact this
theorem Row.elem2 {w : World} {b off : Nat} {A B : List α} {x y : α} {sp : List Value} (hc : ∀ x, (c x).length = s) (h : Row w b off (flat c ((A ++ [x]) ++ y :: B) ++ sp)) : Row w b (off + A.length * s) (c x) := by
 rw [List.append_assoc] at h
 exact Row.elem hc h
theorem snoc_of {l : List α} (h : 0 < l.length) : ∃ A a, l = A ++ [a] := by
 have hn : l ≠ [] := by intro h0; subst h0; simp at h
 exact ⟨l.dropLast, l.getLast hn, (List.dropLast_concat_getLast hn).symm⟩
theorem pred_len {A : List α} {x : α} (h : A.length < 1000000000) : IntKind.i64.wrap (((A ++ [x]).length : Int) - 1) = (A.length : Int) := by
 rw [List.length_append, List.length_singleton, wrap_i64 (by omega) (by omega)]; omega
theorem split_at {l : List α} {j : Nat} (hj : j < l.length) : l = l.take j ++ l[j] :: l.drop (j + 1) := by
 rw [List.getElem_cons_drop, List.take_append_drop]
theorem Row.nth {w : World} {b off : Nat} {l : List α} (hc : ∀ x, (c x).length = s) (h : Row w b off (flat c l)) {j : Nat} (hj : j < l.length) : Row w b (off + j * s) (c l[j]) := by
 have h' : Row w b off (flat c (l.take j ++ l[j] :: l.drop (j + 1)) ++ []) := by rw [← split_at hj, List.append_nil]; exact h
 have := Row.elem hc h'
 rwa [List.length_take, Nat.min_eq_left (by omega)] at this
theorem Row.nth' {w : World} {b off : Nat} {l : List α} {x : α} (hc : ∀ x, (c x).length = s) (h : Row w b off (flat c l)) {j : Nat} (hj : l[j]? = some x) : Row w b (off + j * s) (c x) := by
 obtain ⟨h1, h2⟩ := List.getElem?_eq_some_iff.1 hj
 have := Row.nth hc h h1
 rwa [h2] at this
theorem Row.left {w : World} {b off : Nat} {l r : List Value} (h : Row w b off (l ++ r)) : Row w b off l := fun j v hv => h j v (by
 have hj : j < l.length := by
  rcases Nat.lt_or_ge j l.length with h1 | h1
  ·exact h1
  ·rw [List.getElem?_eq_none h1] at hv; cases hv
 rw [List.getElem?_append_left hj]; exact hv)
def Els (w : World) (c : α → List Value) (a : Option Addr) (l : List α) : Prop := 0 < l.length → ∃ b off, a = some ⟨b, off, none⟩ ∧ Row w b off (flat c l)
theorem Els.nil (w : World) (c : α → List Value) (a : Option Addr) : Els w c a [] := fun h => by simp at h
theorem Els.row {w : World} {a : Option Addr} {l : List α} (h : Els w c a l) {i : Nat} (hi : i < l.length) : ∃ b off, a = some ⟨b, off, none⟩ ∧ Row w b off (flat c l) := h (by omega)
theorem Els.later0 {w0 w : World} {H : Heap} {a : Option Addr} {l : List α} (h : Els w0 c a l) (hw : St w0 [] H w) : Els w c a l := fun hl => by
 obtain ⟨b, off, ha, hr⟩ := h hl
 exact ⟨b, off, ha, row_old hr (by simp) w hw⟩
def GivesE (G : Heap) (c : α → List Value) (a : Option Addr) (l : List α) : Prop :=
 0 < l.length → ∃ b off, a = some ⟨b, off, none⟩ ∧ ∀ w : World, (∀ x ∈ G, w.heap[x.1]? = some x.2) → Row w b off (flat c l)
theorem GivesE.els {G H : Heap} {a : Option Addr} {l : List α} {w0 w : World} {ms : List Nat} (h : GivesE G c a l) (hw : St w0 ms H w) (hs : ∀ x ∈ G, x ∈ H) : Els w c a l := fun hl => by
 obtain ⟨b, off, ha, hr⟩ := h hl
 exact ⟨b, off, ha, hr w fun x hx => hw.holds x (hs x hx)⟩
theorem Vec.gives {T n : Nat} {v : Value} {G : Heap} {l : List α} (h : Vec T s v n (flat c l) G) (hc : ∀ x, (c x).length = s) (hs : 0 < s) : ∃ a cp, v = .slice a n cp ∧ l.length = n ∧ n ≤ cp ∧ GivesE G c a l := by
 have hl := h.len
 rw [flat_len hc] at hl
 have hn : l.length = n := Nat.eq_of_mul_eq_mul_right hs hl
 generalize hx : flat c l = xs at h
 cases h with
 | nil => exact ⟨none, 0, rfl, hn, Nat.le_refl _, fun h0 => by omega⟩
 | row b _ cap _ sp h1 h2 h3 h4 =>
  refine ⟨_, cap, rfl, hn, h4, fun _ => ⟨b, 0, rfl, fun w hw => ?_⟩⟩
  have := Row.all (w := w) (b := b) (hw _ (.head _))
  rw [← hx] at this
  exact this.left
end
theorem light_array {P : Program} {e : Env} {d : Option Nat} {ty : TypeId} {pos : String} {af : Array Edge} {g : Option (Nat × Bool)} {t el n s : Nat} {parts : List (Nat × Operand)} {ps : List (Nat × Value)} {l z : List Value}
  (hu : arrP P t = some (n, el, s)) (hz : zeroP P t = some z) (hp : partsF e parts = some ps) (hf : fillL (fun i => some (i * s, s)) z ps = some l) :
  light P e ⟨d, .build t parts.toArray, ty, pos, af, g⟩ = some (.agg l.toArray) := by
 refine light_of_pure ?_ rfl
 obtain ⟨h1, h2⟩ := arrP_spec hu
 have hpp := partsF_eq hp
 have hfl := fill_of_fillL hf
 have hzz : ∀ {α : Type} (f : Value → Sem α), ∃ zv : Value, zv.cells = z.toArray ∧ pureOf P (zeroValue t >>= f) = pureOf P (f zv) := by
  intro α f
  unfold zeroP at hz
  split at hz
  ·rename_i i hi
   split at hz
   ·rename_i zv hzv
    refine ⟨zv, cellsF_eq hz, ?_⟩
    simp [zeroValue, typeInfo, program, bind, Sem.bind, pureOf, hi, hzv, pure]
   ·cases hz
  ·cases hz
 simp only [execOp, Instr.build, bind_assoc]
 obtain ⟨zv, hzc, hzr⟩ := hzz (fun zero => underlying t >>= fun d => _)
 rw [hzr, pure_underlying h1]
 simp only [bind_assoc]
 rw [pure_size h2]
 have h9 : ((List.toArray parts).map fun (i, x) => (i, ev e x)).toList = ps := by simpa using hpp
 simp only [h9, hzc, hfl]
 rfl
theorem map_get {kd : IntKind} {l : List Int} {k : Nat} (h : k < l.length) : (l.map (Value.int kd))[k]? = some (.int kd (l.getD k 0)) := by simp [h]
theorem mem_fst {G : Heap} {b : Nat} (h : b ∈ G.map (·.1)) : ∃ o, (b, o) ∈ G := by
 obtain ⟨⟨b', o⟩, h1, h2⟩ := List.mem_map.1 h
 exact ⟨o, by simp only at h2; subst h2; exact h1⟩
theorem putL_all {l vs : List Value} (h : vs.length = l.length) : putL l 0 vs = vs := by
 unfold putL
 rw [List.take_zero, List.nil_append, Nat.zero_add, h, List.drop_length, List.append_nil]
theorem flat_snoc {α : Type} {c : α → List Value} (A : List α) (x : α) : flat c (A ++ [x]) = flat c A ++ c x := by simp [flat]
section
variable {kd : IntKind} {f : Nat → Int} {N k : Nat}
def upTo (kd : IntKind) (f : Nat → Int) (N k : Nat) : List Value := (List.range k).map (fun i => Value.int kd (f i)) ++ List.replicate (N - k) (.int kd 0)
theorem upTo_zero (kd : IntKind) (f : Nat → Int) (N : Nat) : List.replicate N (Value.int kd 0) = upTo kd f N 0 := by simp [upTo]
theorem upTo_len (hk : k ≤ N) : (upTo kd f N k).length = N := by simp [upTo]; omega
theorem upTo_rest (hk : k < N) : upTo kd f N k = (List.range k).map (fun i => Value.int kd (f i)) ++ ([.int kd 0] ++ List.replicate (N - (k + 1)) (.int kd 0)) := by
 unfold upTo
 have : N - k = (N - (k + 1)) + 1 := by omega
 rw [this, List.replicate_succ]; rfl
theorem upTo_put (hk : k < N) (v : Int) (hv : v = f k) : putL (upTo kd f N k) k [.int kd v] = upTo kd f N (k + 1) := by
 have := putL_mid ((List.range k).map (fun i => Value.int kd (f i))) [.int kd 0] (List.replicate (N - (k + 1)) (.int kd 0)) [.int kd v] rfl
 rw [List.length_map, List.length_range] at this
 rw [upTo_rest hk, this, hv]
 simp [upTo, List.range_succ]
theorem upTo_all (kd : IntKind) (f : Nat → Int) (N : Nat) : upTo kd f N N = (List.range N).map (fun i => Value.int kd (f i)) := by simp [upTo]
theorem upTo_ones (kd : IntKind) (f : Nat → Int) (N k : Nat) : ones (upTo kd f N k) = true := by
 refine List.all_eq_true.2 fun x hx => ?_
 rcases List.mem_append.1 hx with h | h
 ·obtain ⟨i, _, rfl⟩ := List.mem_map.1 h; rfl
 ·obtain ⟨_, rfl⟩ := List.mem_replicate.1 h; rfl
theorem putL_again {l : List Value} {u v : Value} {k : Nat} (hk : k < l.length) : putL (putL l k [u]) k [v] = putL l k [v] := by
 have h1 : l = l.take k ++ ([l[k]] ++ l.drop (k + 1)) := by simp
 have hlen : (l.take k).length = k := by rw [List.length_take]; omega
 generalize l.take k = X at *
 generalize l.drop (k + 1) = Z at *
 generalize l[k] = y at *
 have e : ∀ a b : Value, putL (X ++ ([a] ++ Z)) k [b] = X ++ ([b] ++ Z) := fun a b => by
  have := putL_mid X [a] Z [b] rfl
  rwa [hlen] at this
 rw [h1, e, e, e]
theorem putL_len {l vs : List Value} {o : Nat} (h : o + vs.length ≤ l.length) : (putL l o vs).length = l.length := by
 simp only [putL, List.length_append, List.length_take, List.length_drop]; omega
end
def HasM (P : Program) (t0 : TypeId) (name : String) (f : Nat) : Prop := ∀ (v : Value) (w : World), (method (P.types.size + Made.depth) t0 v name).run P w = .ok (f, v) w
theorem run_callI {P : Program} {e : Env} {f : Nat} {x : Operand} {t0 : TypeId} {v : Value} {name : String} {l : List Operand} {ts : Array TypeId} {d : Option Nat} {t : TypeId} {pos : String} {af : Array Edge} {g : Option (Nat × Bool)}
  (hx : ev e x = .iface t0 v) (hm : HasM P t0 name f) (hc : callable P f = true) (w : World) :
  (execOp (ev e) ⟨d, .call ⟨.invoke x name, l.toArray, ts⟩, t, pos, af, g⟩).run P w = .ok (.enter f (#[v] ++ (l.map (ev e)).toArray)) w := by
 unfold callable at hc
 split at hc
 ·rename_i fn hf
  simp only [Bool.and_eq_true, Bool.not_eq_true'] at hc
  obtain ⟨h1, h2⟩ := hc
  have hs : (program : Sem Program) = .program .pure := rfl
  have h3 : ¬ fn.name = "runtime.NumGoroutine" := by simpa using h1
  have h4 : ¬ fn.body = none := by
   intro hx; rw [hx] at h2; cases h2
  have hp : ∀ w, (program : Sem Program).run P w = .ok P w := fun w => rfl
  have hcf : ∀ (args : Array Value) w, (callFunc f args).run P w = .ok (.enter f args) w := fun args w => by
   simp [callFunc, bind, Sem.bind, Sem.run, hf, h3, h4, pure, hs]
  simp only [execOp, resolve, Sem.run_bind, Sem.run_pure, Result.andThen_ok, invoke, callMethod, hx]
  simp [hm v w, hcf, hp, Sem.run_bind, Result.andThen_ok]
  exact List.take_of_length_le (by simp)
 ·cases hc
section
variable {Γ : Ctx} {e : Env} {H F G : Heap} {d : Option Nat} {t : TypeId} {pos : String} {af : Array Edge} {g : Option (Nat × Bool)} {f : Nat} {x : Operand} {l : List Operand} {ts : Array TypeId}
theorem x_callI {t0 : TypeId} {v : Value} {name : String} {vs : List Value} (ms2 : List Nat) (hx : ev e x = .iface t0 v) (hm : HasM Γ.P t0 name f) (hc : callable Γ.P f = true) (hv : evs e l = some vs) {R : Value → Heap → Prop}
  (hms : ∀ b ∈ ms2, ∃ o, (b, o) ∈ F) (hf : ∀ w, St Γ.w0 Γ.ms (F ++ G) w → Does Γ.P f (v :: vs) w ms2 R) :
  Op1 Γ ⟨d, .call ⟨.invoke x name, l.toArray, ts⟩, t, pos, af, g⟩ e (F ++ G) (fun v H2 => ∃ H', R v H' ∧ H2 = H' ++ G) := fun w hw => by
 refine opW_enter (run_callI hx hm hc w) ?_
 have : #[v] ++ (l.map (ev e)).toArray = (v :: vs).toArray := by
  rw [evs_eq hv]
  simp
 rw [this]
 refine Calls.mono (hf w hw) ?_
 rintro ex w' ⟨v, H', rfl, h1, h2⟩
 exact ⟨v, rfl, _, hw.call hms h1, H', h2, rfl⟩
theorem x_callIT {A : Heap} {t0 : TypeId} {v : Value} {name : String} {vs : List Value} (hx : ev e x = .iface t0 v) (hm : HasM Γ.P t0 name f) (hc : callable Γ.P f = true) (hv : evs e l = some vs) {R : Value → Heap → Prop}
  (hf : ∀ w, St Γ.w0 Γ.ms (A ++ F) w → Does Γ.P f (v :: vs) w (A.map (·.1)) R) :
  Op1 Γ ⟨d, .call ⟨.invoke x name, l.toArray, ts⟩, t, pos, af, g⟩ e (F ++ A) (fun v H2 => ∃ H', R v H' ∧ H2 = F ++ H') := fun w hw => by
 refine opW_mono (x_callI (F := A) (G := F) (A.map (·.1)) hx hm hc hv (fun _ hb => mem_fst hb) hf w (hw.perm List.perm_append_comm)) ?_
 rintro v w' ⟨H2, h2, H', hR, rfl⟩
 exact ⟨F ++ H', h2.perm List.perm_append_comm, H', hR, rfl⟩
theorem x_callT {A : Heap} {vs : List Value} (hc : callable Γ.P f = true) (hv : evs e l = some vs) {R : Value → Heap → Prop}
  (hf : ∀ w, St Γ.w0 Γ.ms (A ++ F) w → Does Γ.P f vs w (A.map (·.1)) R) :
  Op1 Γ ⟨d, .call ⟨.value (.func f), l.toArray, ts⟩, t, pos, af, g⟩ e (F ++ A) (fun v H2 => ∃ H', R v H' ∧ H2 = F ++ H') := fun w hw => by
 refine opW_mono (x_callF (A := A) (G := F) (A.map (·.1)) hc hv (fun _ hb => mem_fst hb) hf w (hw.perm List.perm_append_comm)) ?_
 rintro v w' ⟨H2, h2, H', hR, rfl⟩
 exact ⟨F ++ H', h2.perm List.perm_append_comm, H', hR, rfl⟩
theorem x_callVT {A : Heap} {B C vs : List Value} (hx : vnf (ev e x) = some (.func (.func f) B.toArray C.toArray)) (hc : callable Γ.P f = true) (hv : evs e l = some vs) {R : Value → Heap → Prop}
  (hf : ∀ w, St Γ.w0 Γ.ms (A ++ F) w → Does Γ.P f (B ++ vs ++ C) w (A.map (·.1)) R) :
  Op1 Γ ⟨d, .call ⟨.value x, l.toArray, ts⟩, t, pos, af, g⟩ e (F ++ A) (fun v H2 => ∃ H', R v H' ∧ H2 = F ++ H') := fun w hw => by
 refine opW_mono (x_callVF (F := A) (G := F) (A.map (·.1)) hx hc hv (fun _ hb => mem_fst hb) hf w (hw.perm List.perm_append_comm)) ?_
 rintro v w' ⟨H2, h2, H', hR, rfl⟩
 exact ⟨F ++ H', h2.perm List.perm_append_comm, H', hR, rfl⟩
end
section
variable {P : Program} {e : Env} {H : Heap}
theorem rets_cc {a b c d : Nat} {T U : TypeId} {l m : List Value} {w : World} (h : vnf (e a) = some (.pointer (some ⟨b, 0, none⟩))) (hs : aggB P T = true) (hn : sizeP P T = some l.length) (hr : Row w b 0 l)
  (h2 : vnf (e c) = some (.pointer (some ⟨d, 0, none⟩))) (hs2 : aggB P U = true) (hn2 : sizeP P U = some m.length) (hr2 : Row w d 0 m) :
  Rets P [.cell a T, .cell c U] e w (.tuple #[.agg l.toArray, .agg m.toArray]) := by
 have h := vnf_eq h
 have hl := run_loadCells_list (P := P) w ⟨b, 0, none⟩ l hr.add
 have h2 := vnf_eq h2
 have hl2 := run_loadCells_list (P := P) w ⟨d, 0, none⟩ m hr2.add
 simp [Rets, resOf, h, h2, asAddr, loadVar, Sem.run_bind, run_isAgg_a hs, run_sizeOf hn, run_isAgg_a hs2, run_sizeOf hn2, hl, hl2]
end
theorem perm_down {w0 : World} {ms : List Nat} (A : Heap) {x : Nat × Obj} {R : Heap} : ∀ w, St w0 ms (x :: (A ++ R)) w → St w0 ms (A ++ x :: R) w := fun _ hw => hw.perm List.perm_middle.symm
end Go.VV
namespace Go.VV
open Go Go.ChangeShapes Go.WideShapes Go.ChangeAt Go.RowKit
theorem below_of {W W' : World} {H : Heap} (h : St W [] H W') : Below W.heap.size W W' :=
 ⟨h.os, h.tape, h.output, h.size, fun k hk => h.block k hk (by simp)⟩
section
variable {H : Type} {enc : TypeId × Value → H} {P : Program} {W : World}
theorem trodAll_below (hl : laidOutB P = true) {W' : World} (bel : Below W.heap.size W W') : ∀ {ts : List TypeId} {vs : List Value} {ds : List (DataW H)} {p : List MemPlace},
  (ts.all fun t => P.readableRec t && decide (t < P.types.size)) = true → DataW.TrodAll enc P W 0 (fun _ => true) true ts vs ds p →
  DataW.TrodAll enc P W' 0 (fun b => decide (b < W.heap.size)) true ts vs ds p
 | [], vs, ds, p, _, h => by
  obtain ⟨rfl, rfl, rfl⟩ := trodAll_nil h
  exact trodAll_mk0
 | t :: ts, vs, ds, p, hr, h => by
  simp only [List.all_cons, Bool.and_eq_true, decide_eq_true_eq] at hr
  obtain ⟨v, vs', d, ds', p1, q, rfl, rfl, rfl, h1, h2⟩ := trodAll_cons h
  have hlt : ∀ x ∈ p1, x.block < W.heap.size := by obtain ⟨m, hm⟩ := h1; exact DataW.trod_lt m _ _ _ hm
  exact trodAll_cons_mk (Below.trod hl hr.1.1 hr.1.2 h1 bel hlt) (trodAll_below hl bel hr.2 h2)
theorem wf_u8 {x : Int} (h : (Lit.int .u8 x).wf = true) : 0 ≤ x ∧ x < 256 := by
 simp only [Lit.wf, Bool.and_eq_true, decide_eq_true_eq] at h
 have h1 : IntKind.u8.min = 0 := by decide
 have h2 : IntKind.u8.max = 255 := by decide
 omega
theorem wf_u64 {x : Int} (h : (Lit.int .u64 x).wf = true) : 0 ≤ x ∧ x ≤ 18446744073709551615 := by
 simp only [Lit.wf, Bool.and_eq_true, decide_eq_true_eq] at h
 have h1 : IntKind.u64.min = 0 := by decide
 have h2 : IntKind.u64.max = 18446744073709551615 := by decide
 omega
theorem byts_of {l : List Int} (h : ∀ x ∈ l, (Lit.int .u8 x).wf = true) : Byts l := fun x hx => wf_u8 (h x hx)
end
end Go.VV
namespace Go.VV
open Go
theorem St.put {w0 w : World} {ms : List Nat} {b : Nat} {o : Obj} {R : Heap} (h : St w0 ms ((b, o) :: R) w) (o' : Obj) : St w0 ms ((b, o') :: R) (w.putObj b o') :=
 h.turn rfl rfl rfl (by simp) (fun _ hk => World.putObj_heap_other hk) (World.putObj_heap_same (h.lt (x := (b, o)) (.head _)))
def T (Γ : Ctx) (fn : Func) (R : Value → Heap → Prop) (c : Code) (e : Env) (H : Heap) : Prop :=
 ∀ a w, Rep Γ.n Γ.D e a → St Γ.w0 Γ.ms H w → c.wpIn (Fr Γ.r) 0 Γ.P (bodyPostM (Fr none) 0 Γ.P fn (fun ex w' => ∃ v H, ex = .returned v ∧ St Γ.w0 Γ.ms H w' ∧ R v H)) a w
section
variable {P : Program} {Γ : Ctx} {k : Kont} {e : Env} {H H' : Heap} {ops rest : List Oper} {d : Option Nat} {ty : TypeId} {pos : String} {af : Array Edge} {g : Option (Nat × Bool)}
 {S : World → Prop} {need : List Nat} {pl : Plan}
theorem l_heap (hs : ∀ w, St Γ.w0 Γ.ms H w → St Γ.w0 Γ.ms H' w) (h : L1 Γ ops rest k e H') : L1 Γ ops rest k e H := fun a w ha hw => h a w ha (hs w hw)
theorem d_heap (hs : ∀ w, St Γ.w0 Γ.ms H w → St Γ.w0 Γ.ms H' w) (h : L2 Γ ops S need pl k e H') : L2 Γ ops S need pl k e H := fun a w ha hw => h a w ha (hs w hw)
end
def fl : List Heap → Heap
 | [] => []
 | [a] => a
 | a :: b :: r => a ++ fl (b :: r)
theorem fl_cons (a : Heap) (cs : List Heap) : fl (a :: cs) = a ++ fl cs := by
 cases cs with
 | nil => simp [fl]
 | cons b r => rfl
theorem fl_eq : ∀ (cs : List Heap), fl cs = cs.flatten
 | [] => rfl
 | a :: cs => by rw [fl_cons, fl_eq cs, List.flatten_cons]
theorem flatten_perm {α : Type} {a b : List (List α)} (h : a.Perm b) : a.flatten.Perm b.flatten := by
 induction h with
 | nil => exact .refl _
 | cons x _ ih => simpa using ih.append_left x
 | swap x y l =>
  simp only [List.flatten_cons]
  rw [← List.append_assoc, ← List.append_assoc]
  exact List.Perm.append_right _ List.perm_append_comm
 | trans _ _ ih1 ih2 => exact ih1.trans ih2
def ixB (n : Nat) : List Nat → Bool
 | [] => true
 | i :: r => Nat.blt i n && !(r.any (Nat.beq i)) && ixB n r
theorem ix_perm {α : Type} : ∀ (ix : List Nat) (cs : List α), ixB cs.length ix = true → ∃ rest, cs.Perm (ix.filterMap (cs[·]?) ++ rest) := by
 intro ix cs h
 have hnd : ix.Nodup ∧ ∀ i ∈ ix, i < cs.length := by
  induction ix with
  | nil => exact ⟨List.nodup_nil, fun _ h => by cases h⟩
  | cons i r ih =>
   simp only [ixB, Bool.and_eq_true, Bool.not_eq_true'] at h
   obtain ⟨⟨h1, h2⟩, h3⟩ := h
   obtain ⟨g1, g2⟩ := ih h3
   refine ⟨List.nodup_cons.2 ⟨fun hm => ?_, g1⟩, fun j hj => ?_⟩
   ·have : r.any (Nat.beq i) = true := List.any_eq_true.2 ⟨i, hm, Nat.beq_refl i⟩
    rw [this] at h2; cases h2
   ·rcases List.mem_cons.1 hj with rfl | hj
    ·exact Nat.lt_of_lt_of_le (Nat.lt_succ_self _) (Nat.le_of_ble_eq_true h1)
    ·exact g2 j hj
 have hall : cs = (List.range cs.length).filterMap (cs[·]?) := by
  clear h hnd
  induction cs with
  | nil => rfl
  | cons x L ih =>
   rw [List.length_cons, List.range_succ_eq_map, List.filterMap_cons]
   simp only [List.getElem?_cons_zero, List.filterMap_map, Function.comp_def, List.getElem?_cons_succ]
   rw [← ih]
 refine ⟨((List.range cs.length).filter (fun i => !ix.contains i)).filterMap (cs[·]?), ?_⟩
 conv => lhs; rw [hall]
 rw [← List.filterMap_append]
 refine List.Perm.filterMap _ ?_
 rw [List.perm_ext_iff_of_nodup List.nodup_range (List.nodup_append.2 ⟨hnd.1, List.nodup_range.filter _, fun a ha b hb => by rintro rfl; simp at hb; exact hb.2 ha⟩)]
 intro a
 simp only [List.mem_range, List.mem_append, List.mem_filter, Bool.not_eq_true', List.contains_eq_mem, decide_eq_false_iff_not]
 constructor
 ·intro ha
  by_cases hm : a ∈ ix
  ·exact .inl hm
  ·exact .inr ⟨ha, hm⟩
 ·rintro (hm | hm)
  ·exact hnd.2 a hm
  ·exact hm.1
theorem St.fl {w0 w : World} {ms : List Nat} (cs : List Heap) (ix : List Nat) (hp : ixB cs.length ix = true) (h : St w0 ms (VV.fl cs) w) : St w0 ms (VV.fl (ix.filterMap (cs[·]?))) w := by
 obtain ⟨rest, hr⟩ := ix_perm ix cs hp
 rw [fl_eq] at h ⊢
 exact (h.perm (flatten_perm hr)).sub (by rw [List.flatten_append]; exact List.sublist_append_left _ _)
theorem St.as {w0 w : World} {ms : List Nat} {L L' : Heap} (h : St w0 ms L w) (he : L = L') : St w0 ms L' w := he ▸ h
end Go.VV
namespace Go.VV
open Go Go.ChangeShapes Go.WideShapes Go.ChangeAt Go.RowKit
inductive CK where
 | int (k : IntKind)
 | bool
 | str
def ckOk : CK → Value → Prop
 | .int k, v => ∃ n, v = .int k n ∧ (Lit.int k n).wf = true
 | .bool, v => ∃ b, v = .bool b
 | .str, v => ∃ s : ByteArray, v = .string s ∧ s.size ≤ maxLen
def Cks : List CK → List Value → Prop
 | [], [] => True
 | k :: ks, v :: vs => ckOk k v ∧ Cks ks vs
 | _, _ => False
theorem Cks.app : ∀ {a b : List CK} {x y : List Value}, Cks a x → Cks b y → Cks (a ++ b) (x ++ y)
 | [], _, [], _, _, h => h
 | _ :: _, _, _ :: _, _, h, h2 => ⟨h.1, Cks.app h.2 h2⟩
 | [], _, _ :: _, _, h, _ => h.elim
 | _ :: _, _, [], _, h, _ => h.elim
theorem Cks.len : ∀ {a : List CK} {x : List Value}, Cks a x → a.length = x.length
 | [], [], _ => rfl
 | _ :: _, _ :: _, h => by simp [Cks.len h.2]
 | [], _ :: _, h => h.elim
 | _ :: _, [], h => h.elim
section
variable (P : Program)
def kindsF (f : TypeId → Option (List CK)) : List Field → Nat → Option (List CK)
 | [], _ => some []
 | fd :: r, off => match f fd.type with
  | some ks => bif Nat.beq fd.offset off && Nat.beq (P.cellsOf fd.type) ks.length then (match kindsF f r (off + ks.length) with
   | some rs => some (ks ++ rs)
   | none => none) else none
  | none => none
def kinds : Nat → TypeId → Option (List CK)
 | 0, _ => none
 | n + 1, t => match P.underlying t with
  | some (.int k) => some [.int k]
  | some .bool => some [.bool]
  | some .string => some [.str]
  | some (.struct ⟨fs⟩) => match kindsF P (kinds n) fs 0 with
   | some ks => bif Nat.beq (P.cellsOf t) ks.length then some ks else none
   | none => none
  | _ => none
end
section
variable {H : Type} {enc : TypeId × Value → H} {P : Program} {W : World} {base : Nat} {spare : Nat → Bool} {held : Bool}
theorem kindsF_ok {f : TypeId → Option (List CK)} {n : Nat} {cs : List Value} (hf : ∀ {t : TypeId} {ks : List CK} {xs : List Value} {y : DataW H × List MemPlace}, f t = some ks → DataW.trod enc P W base spare held n t xs = some y → Cks ks xs) :
  ∀ (fs : List Field) (off : Nat) (ks : List CK), kindsF P f fs off = some ks → (∀ fd ∈ fs, ∃ y, DataW.trod enc P W base spare held n fd.type ((cs.drop fd.offset).take (P.cellsOf fd.type)) = some y) → Cks ks ((cs.drop off).take ks.length)
 | [], off, ks, h, _ => by cases h; simp [Cks]
 | fd :: r, off, ks, h, hy => by
  simp only [kindsF] at h
  split at h
  ·rename_i k1 hk1
   by_cases hb : (Nat.beq fd.offset off && Nat.beq (P.cellsOf fd.type) k1.length) = true
   ·rw [hb, cond_true] at h
    simp only [Bool.and_eq_true] at hb
    have h1 := Nat.eq_of_beq_eq_true hb.1
    have h2 := Nat.eq_of_beq_eq_true hb.2
    split at h
    ·rename_i rs hrs
     cases h
     obtain ⟨y, hy1⟩ := hy fd (.head _)
     have a1 := hf hk1 hy1
     have a2 := kindsF_ok hf r _ rs hrs fun g hg => hy g (.tail _ hg)
     rw [h1, h2] at a1
     rw [List.length_append, List.take_add, List.drop_drop]
     exact a1.app a2
    ·cases h
   ·simp only [Bool.not_eq_true] at hb
    rw [hb, cond_false] at h
    cases h
  ·cases h
theorem kinds_ok : ∀ (m : Nat) {n : Nat} {t : TypeId} {ks : List CK} {cs : List Value} {y : DataW H × List MemPlace}, kinds P m t = some ks → DataW.trod enc P W base spare held n t cs = some y → Cks ks cs
 | 0, _, _, _, _, _, h, _ => by cases h
 | m + 1, n, t, ks, cs, y, h, hy => by
  simp only [kinds] at h
  split at h
  ·rename_i k ht
   cases h
   obtain ⟨x, rfl, _, hw⟩ := DataW.trod_int ht hy
   exact ⟨⟨x, rfl, hw⟩, trivial⟩
  ·rename_i ht
   cases h
   obtain ⟨b, rfl, _⟩ := DataW.trod_bool ht hy
   exact ⟨⟨b, rfl⟩, trivial⟩
  ·rename_i ht
   cases h
   obtain ⟨s, rfl, _, hs⟩ := DataW.trod_string ht hy
   exact ⟨⟨s, rfl, hs⟩, trivial⟩
  ·rename_i fs ht
   split at h
   ·rename_i k1 hk1
    by_cases hb : Nat.beq (P.cellsOf t) k1.length = true
    ·rw [hb, cond_true] at h
     cases h
     obtain ⟨xs, n', rfl, _, hl, hlen, hf⟩ := DataW.trod_struct ht hy
     have := kindsF_ok (cs := cs) (fun h1 h2 => kinds_ok m h1 h2) fs 0 _ hk1 (fun fd hfd => by
      obtain ⟨i, hi, rfl⟩ := List.getElem_of_mem hfd
      have h3 := hf i fs[i] (by simp [hi])
      have hi' : i < xs.length := by rw [hlen]; simpa using hi
      rw [List.getElem?_eq_getElem hi'] at h3
      exact ⟨_, h3⟩)
     rw [List.drop_zero, ← Nat.eq_of_beq_eq_true hb, ← hl, List.take_length] at this
     exact this
    ·simp only [Bool.not_eq_true] at hb
     rw [hb, cond_false] at h
     cases h
   ·cases h
  ·cases h
theorem map_of {α β : Type} {f : β → α} {p : β → Prop} : ∀ {L : List α}, (∀ r ∈ L, ∃ s, r = f s ∧ p s) → ∃ l : List β, L = l.map f ∧ ∀ s ∈ l, p s
 | [], _ => ⟨[], rfl, fun _ h => by cases h⟩
 | r :: L, h => by
  obtain ⟨s, rfl, hs⟩ := h r (.head _)
  obtain ⟨l, rfl, hl⟩ := map_of (L := L) fun x hx => h x (.tail _ hx)
  exact ⟨s :: l, rfl, fun x hx => by rcases List.mem_cons.1 hx with rfl | hx; exact hs; exact hl x hx⟩
theorem rows_open {α : Type} {t e : TypeId} {ks : List CK} {c : α → List Value} {p : α → Prop} (s : Nat) {cs : List Value} {n : Nat} {y : DataW H × List MemPlace} (ht : P.underlying t = some (.slice e)) (hk : kinds P 9 e = some ks) (hc : P.cellsOf e = s) (hs : Nat.blt 0 s = true)
  (hp : ∀ cs, Cks ks cs → ∃ x, cs = c x ∧ p x) (hf : DataW.trod enc P W 0 (fun _ => true) true n t cs = some y) :
  ∃ (a : Option Addr) (cp : Nat) (l : List α), cs = [.slice a l.length cp] ∧ l.length ≤ cp ∧ l.length ≤ maxLen ∧ (∀ x ∈ l, p x) ∧ Els W c a l := by
 subst hc
 have hs : 0 < P.cellsOf e := Nat.lt_of_lt_of_le Nat.zero_lt_one (Nat.le_of_ble_eq_true hs)
 rcases Deep.open_slice ht hf with ⟨rfl, _⟩ | ⟨x, len, cap, m, n, D, Pl, rfl, _, hl, hm, hmm, _, hel⟩
 ·exact ⟨none, 0, [], rfl, Nat.le_refl _, Nat.zero_le _, fun _ h => (by cases h), Els.nil _ _ _⟩
 ·have hlm : len ≤ m := by rw [hmm]; split <;> omega
  have key : ∀ i, i < len → ∃ y : α, (∀ j, j < P.cellsOf e → W.cell? ((x.add (i * P.cellsOf e)).add j) = (c y)[j]?) ∧ (c y).length = P.cellsOf e ∧ p y := fun i hi => by
   obtain ⟨cs, h1, h2⟩ := hel i (by omega)
   obtain ⟨_, h3, h4⟩ := World.cells?_some h1
   obtain ⟨y, rfl, hy⟩ := hp cs (kinds_ok 9 hk h2)
   exact ⟨y, h4, h3, hy⟩
  have hne : ∀ i, i < len → ∃ y : Option α, ∃ z, y = some z ∧ (∀ j, j < P.cellsOf e → W.cell? ((x.add (i * P.cellsOf e)).add j) = (c z)[j]?) ∧ (c z).length = P.cellsOf e ∧ p z := fun i hi => by
   obtain ⟨y, h1⟩ := key i hi; exact ⟨some y, y, rfl, h1⟩
  obtain ⟨f, hfy⟩ := Deep.choose_lt hne
  have hex : ∀ o ∈ (List.range len).map f, ∃ z, o = some z ∧ p z := fun o ho => by
   obtain ⟨i, hi, rfl⟩ := List.mem_map.1 ho
   obtain ⟨z, h1, _, _, h4⟩ := hfy i (List.mem_range.1 hi)
   exact ⟨z, h1, h4⟩
  obtain ⟨L, hL, hLp⟩ := map_of hex
  have hlen : L.length = len := by
   have := congrArg List.length hL
   simpa using this.symm
  refine ⟨some x, cap, L, by rw [hlen], by omega, by omega, hLp, fun h0 => ?_⟩
  obtain ⟨b, off, spot⟩ := x
  have hg : ∀ i, (hi : i < L.length) → f i = some L[i] := fun i hi => by
   have h5 : ((List.range len).map f)[i]? = (L.map some)[i]? := by rw [hL]
   rw [List.getElem?_map, List.getElem?_map, List.getElem?_range (by omega), List.getElem?_eq_getElem hi] at h5
   simpa using h5
  have hcell : ∀ i j, (hi : i < L.length) → j < P.cellsOf e → W.cell? (((⟨b, off, spot⟩ : Addr).add (i * P.cellsOf e)).add j) = (c L[i])[j]? ∧ (c L[i]).length = P.cellsOf e := fun i j hi hj => by
   obtain ⟨z, h1, h2, h3, _⟩ := hfy i (by omega)
   have h6 := hg i hi
   rw [h1] at h6
   cases h6
   exact ⟨h2 j hj, h3⟩
  have hspot : spot = none := by
   obtain ⟨h7, h8⟩ := hcell 0 0 h0 hs
   rw [List.getElem?_eq_getElem (by omega)] at h7
   simpa [Addr.add] using World.cell?_spot h7
  subst hspot
  refine ⟨b, off, rfl, fun k v hv => ?_⟩
  have hcl : ∀ z ∈ L, (c z).length = P.cellsOf e := fun z hz => by
   obtain ⟨i, hi, rfl⟩ := List.getElem_of_mem hz
   exact (hcell i 0 hi hs).2
  have main : ∀ (L : List α) (o : Nat), (∀ i j, (hi : i < L.length) → j < P.cellsOf e → W.cell? ⟨b, o + (i * P.cellsOf e + j), none⟩ = (c L[i])[j]?) → (∀ z ∈ L, (c z).length = P.cellsOf e) → ∀ k v, (flat c L)[k]? = some v → W.cell? ⟨b, o + k, none⟩ = some v := by
   intro L
   induction L with
   | nil => intro o _ _ k v hv; simp [flat] at hv
   | cons z L ih =>
    intro o hc1 hc2 k v hv
    have hz := hc2 z (.head _)
    rw [flat_cons] at hv
    rcases Nat.lt_or_ge k (P.cellsOf e) with hk1 | hk1
    ·rw [List.getElem?_append_left (by omega)] at hv
     have := hc1 0 k (by simp) hk1
     rw [Nat.zero_mul, Nat.zero_add] at this
     rw [this]; exact hv
    ·rw [List.getElem?_append_right (by omega), hz] at hv
     have h9 := ih (o + P.cellsOf e) (fun i j hi hj => by
      have := hc1 (i + 1) j (by simpa using hi) hj
      rw [Nat.add_mul, Nat.one_mul] at this
      rw [show o + P.cellsOf e + (i * P.cellsOf e + j) = o + (i * P.cellsOf e + P.cellsOf e + j) by omega]
      exact this) (fun y hy => hc2 y (.tail _ hy)) (k - P.cellsOf e) v hv
     rw [show o + P.cellsOf e + (k - P.cellsOf e) = o + k by omega] at h9
     exact h9
  refine main L off (fun i j hi hj => ?_) hcl k v hv
  have := (hcell i j hi hj).1
  rw [add_mk, add_mk] at this
  rw [show off + (i * P.cellsOf e + j) = off + i * P.cellsOf e + j by omega]
  exact this
end
end Go.VV
namespace Go.VV
open Go
end Go.VV
namespace Go.VV
open Go Go.RowKit
section
variable {P : Program} {Γ : Ctx} {e : Env} {H : Heap} {d : Option Nat} {ty : TypeId} {pos : String} {af : Array Edge} {g : Option (Nat × Bool)}
theorem Row.seg {w : World} {b off : Nat} {L l : List Value} (h : Row w b off L) (k n : Nat) (hs : spine ((L.drop k).take n) = some l) : Row w b (off + k) l := fun j v hv => by
 rw [← spine_eq hs, List.getElem?_take] at hv
 split at hv
 ·rw [List.getElem?_drop] at hv
  rw [Nat.add_assoc]; exact h _ _ hv
 ·cases hv
theorem row_own_at {w0 : World} {ms : List Nat} {b : Nat} {l l' : List Value} {t : TypeId} {fr : Nat × Nat} (hm : (b, Obj.cells l.toArray t fr) ∈ H) (k n : Nat) (hs : spine ((l.drop k).take n) = some l') : ∀ w, St w0 ms H w → Row w b k l' := fun w hw => by
 have := (row_own (H := H) hm w hw).seg k n hs
 rwa [Nat.zero_add] at this
theorem x_appendE {t : TypeId} {x y : Operand} {T s by_ : Nat} {v u : Value} {n m : Nat} {xs ys : List Value} {G A : Heap} {ts : Array TypeId}
  (hx : ev e x = v) (hy : ev e y = u) (hts : ts = #[t, t]) (hp : appP Γ.P t = some (T, s, by_)) (hv : Vec T s v n xs G)
  (hs : ∀ w, St Γ.w0 Γ.ms (A ++ G) w → Src w s u m ys) (h1 : ones ys = true) (hlen : n + m ≤ 140737488355328) (hb : (n + m) * by_ ≤ 140737488355328) :
  Op1 Γ ⟨d, .call ⟨.builtin .append, #[x, y], ts⟩, ty, pos, af, g⟩ e (A ++ G) (fun v' H' => ∃ G', Vec T s v' (n + m) (xs ++ ys) G' ∧ (v' = .slice none 0 0 → n = 0 ∧ m = 0) ∧ H' = G' ++ A) := by
 have key := x_append (Γ := Γ) (e := e) (d := d) (ty := ty) (pos := pos) (af := af) (g := g) (A := A) (R := []) hx hy hts hp hv (fun w hw => hs w (by simpa using hw)) h1 hlen hb
 intro w hw
 refine opW_mono (key w (by simpa using hw)) ?_
 rintro v' w' ⟨H', h2, G', h3, h4, rfl⟩
 exact ⟨G' ++ A, by simpa using h2, G', h3, h4, rfl⟩
theorem Vec.as {T s n n' : Nat} {v : Value} {xs xs' : List Value} {G : Heap} (h : Vec T s v n xs G) (hn : n = n') (hx : xs = xs') : Vec T s v n' xs' G := by subst hn hx; exact h
theorem Vec.full {T s : Nat} {v : Value} {n : Nat} {xs : List Value} {G : Heap} (h : Vec T s v n xs G) (hn : n ≠ 0) :
  ∃ b cap sp, v = .slice (some ⟨b, 0, none⟩) n cap ∧ G = [(b, blk (xs ++ sp) T)] ∧ (xs ++ sp).length = cap * s ∧ n ≤ cap ∧ cap ≤ maxLen := by
 cases h with
 | nil => exact absurd rfl hn
 | row b _ cap _ sp h1 h2 h3 h4 => exact ⟨b, cap, sp, rfl, rfl, h2, h4, h3⟩
theorem Vec.alt {T s : Nat} {v : Value} {n : Nat} {xs : List Value} {G : Heap} (h : Vec T s v n xs G) :
  (v = .slice none 0 0 ∧ n = 0 ∧ xs = [] ∧ G = []) ∨ ∃ b cap sp, v = .slice (some ⟨b, 0, none⟩) n cap ∧ G = [(b, blk (xs ++ sp) T)] ∧ (xs ++ sp).length = cap * s ∧ n ≤ cap ∧ cap ≤ maxLen := by
 cases h with
 | nil => exact .inl ⟨rfl, rfl, rfl, rfl⟩
 | row b _ cap _ sp h1 h2 h3 h4 => exact .inr ⟨b, cap, sp, rfl, rfl, h2, h4, h3⟩
theorem St.lentV {w0 w : World} {ms : List Nat} {F G : Heap} (h : St w0 ms (F ++ G) w) : St w (F.map (·.1)) F w := by
 have hn := h.nodup
 rw [List.map_append, List.nodup_append] at hn
 exact ⟨rfl, rfl, rfl, Nat.le_refl _, fun _ _ _ => rfl, hn.1, fun x hx => .inl (List.mem_map.2 ⟨x, hx, rfl⟩), fun x hx => h.holds x (List.mem_append_left _ hx)⟩
theorem St.lentA {w0 w : World} {ms : List Nat} {F : Heap} (h : St w0 ms F w) : St w (F.map (·.1)) F w := by
 have : St w0 ms (F ++ []) w := by simpa using h
 exact this.lentV
end
end Go.VV
namespace Go.VV
open Go
end Go.VV
namespace Go.VV
open Go
section
variable {Γ : Ctx} {e : Env} {A : Heap} {d : Option Nat} {t : TypeId} {pos : String} {af : Array Edge} {g : Option (Nat × Bool)}
theorem x_callA {f : Nat} {l : List Operand} {ts : Array TypeId} {vs : List Value} (hc : callable Γ.P f = true) (hv : evs e l = some vs) {R : Value → Heap → Prop}
  (hf : ∀ w, St Γ.w0 Γ.ms A w → Does Γ.P f vs w (A.map (·.1)) R) :
  Op1 Γ ⟨d, .call ⟨.value (.func f), l.toArray, ts⟩, t, pos, af, g⟩ e A (fun v H2 => R v H2) := by
 intro w hw
 have key := x_callF (Γ := Γ) (e := e) (d := d) (t := t) (pos := pos) (af := af) (g := g) (ts := ts) (A := A) (G := []) (A.map (·.1)) hc hv (R := R) (fun _ hb => mem_fst hb) (fun w hw => hf w (by simpa using hw))
 refine opW_mono (key w (by simpa using hw)) ?_
 rintro v w' ⟨H', h2, G', h3, rfl⟩
 exact ⟨G', by simpa using h2, h3⟩
end
def SlW {α : Type} (w : World) (c : α → List Value) (a : Option Addr) (l : List α) : Prop := (a = none ∧ l = []) ∨ ∃ b off, a = some ⟨b, off, none⟩ ∧ Row w b off (flat c l)
theorem SlW.els {α : Type} {w : World} {c : α → List Value} {a : Option Addr} {l : List α} (h : SlW w c a l) : Els w c a l := by
 rcases h with ⟨_, rfl⟩ | ⟨b, off, h1, h2⟩
 ·exact Els.nil _ _ _
 ·exact fun _ => ⟨b, off, h1, h2⟩
theorem SlW.later0 {α : Type} {w0 w : World} {H : Heap} {c : α → List Value} {a : Option Addr} {l : List α} (h : SlW w0 c a l) (hw : St w0 [] H w) : SlW w c a l := by
 rcases h with h | ⟨b, off, h1, h2⟩
 ·exact .inl h
 ·exact .inr ⟨b, off, h1, row_old h2 (by simp) w hw⟩
end Go.VV
namespace Go.VV
open Go
theorem srow_own_at {Γ : Ctx} {F : Heap} {b : Nat} {l l' : List Value} {T : TypeId} {fr : Nat × Nat} (hm : (b, Obj.cells l.toArray T fr) ∈ F) (k n : Nat) (hs : spine ((l.drop k).take n) = some l') : ∀ w, Stood Γ F w → Row w b k l' :=
 fun w ⟨_, hw, hF⟩ => row_own_at (hF _ hm) k n hs w hw
def RowsIn (G : Heap) (b off : Nat) (xs : List Value) : Prop := ∀ w : World, (∀ x ∈ G, w.heap[x.1]? = some x.2) → Row w b off xs
theorem RowsIn.row {G H : Heap} {b off : Nat} {xs : List Value} (h : RowsIn G b off xs) (hs : ∀ x ∈ G, x ∈ H) {w0 : World} {ms : List Nat} : ∀ w, St w0 ms H w → Row w b off xs :=
 fun w hw => h w fun x hx => hw.holds x (hs x hx)
section
variable {α : Type} {c : α → List Value} {s : Nat}
theorem Row.at {w : World} {b off : Nat} {l : List α} {i : Nat} {x : α} (h : Row w b off (flat c l)) (hc : ∀ x, (c x).length = s) (hi : l[i]? = some x) (j : Nat) {v : Value} (hv : (c x)[j]? = some v) :
  w.cell? ⟨b, off + i * s + j, none⟩ = some v := Row.nth' hc h hi j v hv
theorem Row.part {w : World} {b off : Nat} {l : List α} {i : Nat} {x : α} (h : Row w b off (flat c l)) (hc : ∀ x, (c x).length = s) (hi : l[i]? = some x) (j n : Nat) {v : List Value} (hv : spine (((c x).drop j).take n) = some v) :
  Row w b (off + i * s + j) v := (Row.nth' hc h hi).seg j n hv
theorem Vec.rows {T n : Nat} {v : Value} {G : Heap} {l : List α} (h : Vec T s v n (flat c l) G) (hc : ∀ x, (c x).length = s) (hs : 0 < s) :
  ∃ a cp, v = .slice a n cp ∧ l.length = n ∧ n ≤ cp ∧ (0 < l.length → ∃ b, a = some ⟨b, 0, none⟩ ∧ RowsIn G b 0 (flat c l)) := by
 have hl := h.len
 rw [flat_len hc] at hl
 have hn : l.length = n := Nat.eq_of_mul_eq_mul_right hs hl
 generalize hx : flat c l = xs at h
 cases h with
 | nil => exact ⟨none, 0, rfl, hn, Nat.le_refl _, fun h0 => by omega⟩
 | row b _ cap _ sp h1 h2 h3 h4 =>
  refine ⟨_, cap, rfl, hn, h4, fun _ => ⟨b, rfl, fun w hw => ?_⟩⟩
  exact (Row.all (w := w) (b := b) (hw _ (.head _))).left
theorem get_part {l : List α} {i : Nat} {x : α} (h : l[i]? = some x) : (l.take (i + 1)) = l.take i ++ [x] := by
 rw [List.take_add_one, h]; rfl
theorem get_some {l : List α} {i : Nat} (h : i < l.length) : l[i]? = some l[i] := List.getElem?_eq_getElem h
end
section
variable {α : Type} {c : α → List Value} {s : Nat}
def Seg (c : α → List Value) (l : List α) (v : Value) (G : Heap) : Prop :=
 (v = .slice none 0 0 ∧ l = [] ∧ G = []) ∨ ∃ b off cp, v = .slice (some ⟨b, off, none⟩) l.length cp ∧ l.length ≤ cp ∧ RowsIn G b off (flat c l)
theorem Seg.nil : Seg c [] (.slice none 0 0) [] := .inl ⟨rfl, rfl, rfl⟩
theorem Seg.of {l : List α} {b off n cp : Nat} {G : Heap} (hn : n = l.length) (h : l.length ≤ cp) (hr : RowsIn G b off (flat c l)) : Seg c l (.slice (some ⟨b, off, none⟩) n cp) G := by
 subst hn; exact .inr ⟨b, off, cp, rfl, h, hr⟩
theorem Seg.slice {l : List α} {v : Value} {G : Heap} (h : Seg c l v G) : ∃ a cp, v = .slice a l.length cp ∧ l.length ≤ cp ∧ (0 < l.length → ∃ b off, a = some ⟨b, off, none⟩ ∧ RowsIn G b off (flat c l)) := by
 rcases h with ⟨rfl, rfl, rfl⟩ | ⟨b, off, cp, rfl, h1, h2⟩
 ·exact ⟨none, 0, rfl, Nat.le_refl _, fun h => by simp at h⟩
 ·exact ⟨_, cp, rfl, h1, fun _ => ⟨b, off, rfl, h2⟩⟩
theorem RowsIn.left {G : Heap} {b off : Nat} {xs ys : List Value} (h : RowsIn G b off (xs ++ ys)) : RowsIn G b off xs := fun w hw => (h w hw).left
theorem RowsIn.own (b : Nat) (xs : List Value) (T : TypeId) : RowsIn [(b, blk xs T)] b 0 xs := fun w hw => Row.all (w := w) (b := b) (hw _ (.head _))
end
theorem cut_pre {P : Program} {e : Env} {d : Option Nat} {ty : TypeId} {pos : String} {af : Array Edge} {g : Option (Nat × Bool)} {t : TypeId} {x hi : Operand} {a : Option Addr} {n c el s : Nat} {jh : Int} (h : Nat)
  (hx : vnf (ev e x) = some (.slice a n c)) (hu : slcP P t = some (el, s)) (hhi : bndF e (some hi) = some (some jh)) (hh : jh = (h : Int)) (h2 : h ≤ c) :
  light P e ⟨d, .slice t x none (some hi) none, ty, pos, af, g⟩ = some (.slice a h c) := by
 obtain ⟨g1, g2⟩ := slcP_spec hu
 have hx := vnf_eq hx
 refine light_of_pure ?_ rfl
 have hb := bounds_run (e := e) (lo := none) (hi := some hi) (isS := true) (n := n) (c := c) (jl := none) (jh := some jh) 0 h rfl hhi rfl (by simpa using hh) (Nat.zero_le _) h2
 rw [Option.map_none] at hb
 simp only [execOp, hx, Instr.sliceAt, Instr.slice, bind_assoc, pure_underlying g1, Option.map_none, hb, pure_pure, pure_size g2]
 have : (if c = 0 then a else a.map (·.add (0 * s))) = a := by
  split
  ·rfl
  ·cases a <;> simp [Addr.add]
 rw [this]; rfl
theorem St.apart {w0 w : World} {ms : List Nat} {F R : Heap} (h : St w0 ms (F ++ R) w) {b : Nat} {o : Obj} (hm : (b, o) ∈ R) : b ∉ F.map (·.1) := fun hb => by
 have hn := h.nodup
 rw [List.map_append, List.nodup_append] at hn
 exact hn.2.2 _ hb _ (List.mem_map.2 ⟨_, hm, rfl⟩) rfl
def bs (l : List UInt8) : ByteArray := ⟨⟨l⟩⟩
theorem setCell_heap {w : World} {b off : Nat} {l : List Value} {T : TypeId} {fr : Nat × Nat} (h : w.heap[b]? = some (.cells l.toArray T fr)) (v : Value) : (w.setCell ⟨b, off, none⟩ v).heap[b]? = some (.cells (l.set off v).toArray T fr) := by
 unfold World.setCell
 simp only
 rw [Array.getElem?_modify, if_pos rfl, h]
 simp
theorem setCell_otherB {w : World} {a : Addr} {v : Value} (k : Nat) (hk : k ≠ a.block) : (w.setCell a v).heap[k]? = w.heap[k]? := by
 unfold World.setCell
 simp only
 rw [Array.getElem?_modify, if_neg (Ne.symm hk)]
theorem St.setCell {w0 w : World} {ms : List Nat} {R : Heap} {b off : Nat} {l : List Value} {T : TypeId} (h : St w0 ms ((b, blk l T) :: R) w) (v : Value) : St w0 ms ((b, blk (l.set off v) T) :: R) (w.setCell ⟨b, off, none⟩ v) :=
 h.turn rfl rfl rfl (by simp) (fun k hk => setCell_otherB k hk) (setCell_heap (h.holds (b, _) (.head _)) v)
theorem frozen_blk {w : World} {b off : Nat} {l : List Value} {T : TypeId} (h : w.heap[b]? = some (blk l T)) : w.frozen? ⟨b, off, none⟩ = false := by
 simp [World.frozen?, h]
theorem St.after {w0 w w' : World} {ms : List Nat} {A B : Heap} (h : St w0 ms A w) (h' : St w (A.map (·.1)) B w') : St w0 ms B w' := by
 have h1 : St w0 ms (A ++ []) w := by simpa using h
 have := h1.call (F := A) (ms2 := A.map (·.1)) (fun b hb => mem_fst hb) h'
 simpa using this
end Go.VV
