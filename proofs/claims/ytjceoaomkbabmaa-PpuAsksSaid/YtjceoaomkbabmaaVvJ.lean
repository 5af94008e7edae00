/- Calls of function values; calls that turn blocks of the caller's. Plain lemmas; no program. -/
import Derived.Test.YtjceoaomkbabmaaVvI
namespace Go.VV
open Go

theorem run_callV {P : Program} {e : Env} {f : Nat} {x : Operand} {A B : Array Value} {l : List Operand} {ts : Array TypeId} {d : Option Nat} {t : TypeId} {pos : String} {af : Array Edge} {g : Option (Nat × Bool)}
    (hx : ev e x = .func (.func f) A B) (hc : callable P f = true) (w : World) :
    (execOp (ev e) ⟨d, .call ⟨.value x, l.toArray, ts⟩, t, pos, af, g⟩).run P w = .ok (.enter f (A ++ (l.map (ev e)).toArray ++ B)) w := by
  unfold callable at hc
  split at hc
  · rename_i fn hf
    simp only [Bool.and_eq_true, Bool.not_eq_true'] at hc
    obtain ⟨h1, h2⟩ := hc
    have hs : (program : Sem Program) = .program .pure := rfl
    have h3 : ¬ fn.name = "runtime.NumGoroutine" := by simpa using h1
    have h4 : ¬ fn.body = none := by
      intro hx; rw [hx] at h2; cases h2
    simp [execOp, resolve, Deferred.ofValue, hx, invoke, callFunc, bind, Sem.bind, Sem.run, hf, h3, h4, pure, hs]
  · cases hc

section
variable {Γ : Ctx} {e : Env} {H F G : Heap} {d : Option Nat} {t : TypeId} {pos : String} {af : Array Edge} {g : Option (Nat × Bool)} {f : Nat} {x : Operand} {l : List Operand} {ts : Array TypeId}

/-- A call of a function value; it turns the blocks 'ms2', which stand among the entries 'F'. -/
theorem x_callVF {A B : List Value} {vs : List Value} (ms2 : List Nat) (hx : vnf (ev e x) = some (.func (.func f) A.toArray B.toArray)) (hc : callable Γ.P f = true) (hv : evs e l = some vs) {R : Value → Heap → Prop}
    (hms : ∀ b ∈ ms2, ∃ o, (b, o) ∈ F) (hf : ∀ w, St Γ.w0 Γ.ms (F ++ G) w → Does Γ.P f (A ++ vs ++ B) w ms2 R) :
    Op1 Γ ⟨d, .call ⟨.value x, l.toArray, ts⟩, t, pos, af, g⟩ e (F ++ G) (fun v H2 => ∃ H', R v H' ∧ H2 = H' ++ G) := fun w hw => by
  refine opW_enter (run_callV (vnf_eq hx) hc w) ?_
  have : A.toArray ++ (l.map (ev e)).toArray ++ B.toArray = (A ++ vs ++ B).toArray := by
    rw [evs_eq hv]
    simp
  rw [this]
  refine Calls.mono (hf w hw) ?_
  rintro ex w' ⟨v, H', rfl, h1, h2⟩
  exact ⟨v, rfl, _, hw.call hms h1, H', h2, rfl⟩
theorem x_callV {A B : List Value} {vs : List Value} (hx : vnf (ev e x) = some (.func (.func f) A.toArray B.toArray)) (hc : callable Γ.P f = true) (hv : evs e l = some vs) {R : Value → Heap → Prop}
    (hf : ∀ w, St Γ.w0 Γ.ms H w → Does Γ.P f (A ++ vs ++ B) w [] R) :
    Op1 Γ ⟨d, .call ⟨.value x, l.toArray, ts⟩, t, pos, af, g⟩ e H (fun v H2 => ∃ H', R v H' ∧ H2 = H' ++ H) := x_callVF (F := []) [] hx hc hv (by simp) hf
/-- A function value's call that hands back one value, and leaves all as it was. -/
theorem x_valV {A B : List Value} {vs : List Value} {u : Value} (hx : vnf (ev e x) = some (.func (.func f) A.toArray B.toArray)) (hc : callable Γ.P f = true) (hv : evs e l = some vs)
    (hf : ∀ w, St Γ.w0 Γ.ms H w → Does Γ.P f (A ++ vs ++ B) w [] (fun v H' => H' = [] ∧ v = u)) :
    Op1 Γ ⟨d, .call ⟨.value x, l.toArray, ts⟩, t, pos, af, g⟩ e H (fun v H' => v = u ∧ H' = H) := fun w hw => by
  refine opW_mono (x_callV hx hc hv hf w hw) ?_
  rintro v w' ⟨H', h1, H2, ⟨h2, h3⟩, h4⟩
  subst h2 h4
  exact ⟨_, h1, h3, rfl⟩
end

/-- A start at which the caller lends blocks. -/
theorem St.lent {w : World} {F : Heap} (hn : (F.map (·.1)).Nodup) (hF : ∀ x ∈ F, w.heap[x.1]? = some x.2) : St w (F.map (·.1)) F w :=
  ⟨rfl, rfl, rfl, Nat.le_refl _, fun _ _ _ => rfl, hn, fun x hx => .inl (List.mem_map.2 ⟨x, hx, rfl⟩), hF⟩
theorem St.lent1 {w : World} {b : Nat} {o : Obj} (h : w.heap[b]? = some o) : St w [b] [(b, o)] w := St.lent (F := [(b, o)]) (by simp) (by simpa using h)
end Go.VV
