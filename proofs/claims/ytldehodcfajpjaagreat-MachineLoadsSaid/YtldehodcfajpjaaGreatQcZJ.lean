/- A machine is asked. -/
import Derived.Test.YtldehodcfajpjaaGreatQcZB
import Derived.Test.YtldehodcfajpjaaGreatQcZD
set_option linter.unusedSimpArgs false
set_option linter.unusedVariables false
set_option maxRecDepth 100000
set_option maxHeartbeats 4000000
namespace Go.VV
open Go
section
variable {P : Program}
section
variable {e : Env} {d : Option Nat} {t u ty : TypeId} {pos : String} {af : Array Edge} {g : Option (Nat × Bool)} {x y : Operand} {l r : List Value} {ks : List CK}
theorem run_eqs (hx : vnf (ev e x) = some (.agg ⟨l⟩)) (hy : vnf (ev e y) = some (.agg ⟨r⟩)) (hk : kinds P 9 t = some ks) (hb : eqsB P t = true) (h1 : shpB ks l = true) (h2 : shpB ks r = true) (w : World) :
  (execOp (ev e) ⟨d, .binOp .eql t x y u, ty, pos, af, g⟩).run P w = .ok (.value (.bool (lveq l r))) w := by
 have hx := vnf_eq hx
 have hy := vnf_eq hy
 simp only [eqsB, Bool.and_eq_true, Bool.not_eq_true'] at hb
 obtain ⟨⟨b1, b2⟩, b3⟩ := hb
 have hv : ∀ z : List Value, valP P t z = .agg ⟨z⟩ := fun z => by
  unfold valP
  split at b3
  ·rename_i ht; first | rfl | rw [ht]
  ·cases b3
 have key := run_eq_flat 9 (d := 10000) (w := w) (by omega) hk b1 h1 h2
 rw [hv, hv] at key
 have hgd : (eqGuard .eql t x y (.agg ⟨l⟩) (.agg ⟨r⟩)).run P w = .ok () w := by simp [eqGuard, b2]
 simp only [execOp, hx, hy, Sem.run_bind]
 rw [hgd]
 simp only [Result.andThen_ok]
 rw [run_eql_struct (P := P) w t, key]
 rfl
variable {Γ : Ctx} {H : Heap} {k : Kont} {ops rest : List Oper} {S : World → Prop} {need : List Nat} {pl : Plan} {i : Nat}
end
end
end Go.VV
namespace Go.VV
open Go Go.RowKit
end Go.VV
namespace Go.VV
open Go
end Go.VV
namespace Go.VV
open Go
end Go.VV
namespace Go.VV
open Go
end Go.VV
namespace Go.Proofs.YtldehodcfajpjaaGreat
open Go Go.VV Go.Proofs Go.RowKit
theorem stateL {w0 w : World} {ms : List Nat} {H : Heap} {q : MA} {m : Mm} (h : m.Wf) (hw : St w0 ms H w) (hs : ∀ x ∈ hM q m, x ∈ H) : Does Tryz.prog 23 [pM q] w [] (fun v H => H = [] ∧ v = .agg (cS m.cpu).toArray) :=
 stateM_fn q.A q.va m h.ln w (hM_rows hw hs).1
theorem stepsL {w0 w : World} {ms : List Nat} {H : Heap} {q : MA} {m : Mm} (h : m.Wf) (hw : St w0 ms H w) (hs : ∀ x ∈ hM q m, x ∈ H) : Does Tryz.prog 29 [pM q] w [] (fun v H => H = [] ∧ v = .int .u64 m.steps) :=
 stepsM_fn q.A q.va m h.ln w (hM_rows hw hs).1
theorem cyclesL {w0 w : World} {ms : List Nat} {H : Heap} {q : MA} {m : Mm} (h : m.Wf) (hw : St w0 ms H w) (hs : ∀ x ∈ hM q m, x ∈ H) : Does Tryz.prog 24 [pM q] w [] (fun v H => H = [] ∧ v = .int .u64 m.cycles) :=
 cyclesM_fn q.A q.va m h.ln w (hM_rows hw hs).1
end Go.Proofs.YtldehodcfajpjaaGreat
