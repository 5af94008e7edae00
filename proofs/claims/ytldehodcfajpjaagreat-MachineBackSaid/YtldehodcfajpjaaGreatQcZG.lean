/- What a cycle did on the bus. Plain definitions, no program. -/
import Derived.Test.YtldehodcfajpjaaGreatQcI
import Derived.Test.YtldehodcfajpjaaGreatQcZD
set_option linter.unusedSimpArgs false
set_option linter.unusedVariables false
set_option maxRecDepth 100000
namespace Go.VV
open Go
section
variable {P : Program}
section
variable {e : Env} {d : Option Nat} {t u ty : TypeId} {pos : String} {af : Array Edge} {g : Option (Nat × Bool)} {x y : Operand} {l r : List Value} {ks : List CK}
theorem run_nes (hx : vnf (ev e x) = some (.agg ⟨l⟩)) (hy : vnf (ev e y) = some (.agg ⟨r⟩)) (hk : kinds P 9 t = some ks) (hb : eqsB P t = true) (h1 : shpB ks l = true) (h2 : shpB ks r = true) (w : World) :
  (execOp (ev e) ⟨d, .binOp .neq t x y u, ty, pos, af, g⟩).run P w = .ok (.value (.bool (!(lveq l r)))) w := by
 have hx := vnf_eq hx
 have hy := vnf_eq hy
 simp only [eqsB, Bool.and_eq_true, Bool.not_eq_true'] at hb
 obtain ⟨⟨b1, b2⟩, b3⟩ := hb
 have hv : ∀ z : List Value, valP P t z = .agg ⟨z⟩ := fun z => by
  unfold valP
  split at b3
  ·rename_i ht; first | rfl | rw [ht]
  ·cases b3
 have key := run_eq_flat 9 (d := 10000) (w := w) (by omega) hk b1 h1 h2
 rw [hv, hv] at key
 have hgd : (eqGuard .neq t x y (.agg ⟨l⟩) (.agg ⟨r⟩)).run P w = .ok () w := by simp [eqGuard, b2]
 simp only [execOp, hx, hy, Sem.run_bind]
 rw [hgd]
 simp only [Result.andThen_ok]
 rw [run_neq_struct (P := P) w t, key]
 rfl
variable {Γ : Ctx} {H : Heap} {k : Kont} {ops rest : List Oper} {S : World → Prop} {need : List Nat} {pl : Plan} {i : Nat}
theorem l_nes (hx : vnf (ev e x) = some (.agg ⟨l⟩)) (hy : vnf (ev e y) = some (.agg ⟨r⟩)) (hk : kinds Γ.P 9 t = some ks) (hb : eqsB Γ.P t = true) (h1 : shpB ks l = true) (h2 : shpB ks r = true)
  (hg : gdB ops e ⟨d, .binOp .neq t x y u, ty, pos, af, g⟩ = true) (hd : dstOk Γ.n d = true) {b : Bool} (hv : (!(lveq l r)) = b) (h : L1 Γ ops rest k (e.put d (.bool b)) H) : L1 Γ ops (⟨d, .binOp .neq t x y u, ty, pos, af, g⟩ :: rest) k e H := by
 subst hv
 exact l_op (K := fun u H' => u = .bool (!(lveq l r)) ∧ H' = H) hg hd (fun w hw => opW_run (run_nes hx hy hk hb h1 h2 w) ⟨H, hw, rfl, rfl⟩) (by rintro _ _ ⟨rfl, rfl⟩; exact h)
theorem d_nes (ho : ops[i]? = some ⟨d, .binOp .neq t x y u, ty, pos, af, g⟩) (hx : vnf (ev e x) = some (.agg ⟨l⟩)) (hy : vnf (ev e y) = some (.agg ⟨r⟩)) (hk : kinds Γ.P 9 t = some ks) (hb : eqsB Γ.P t = true) (h1 : shpB ks l = true) (h2 : shpB ks r = true)
  (hg : gdB ops e ⟨d, .binOp .neq t x y u, ty, pos, af, g⟩ = true) (hd : dstOk Γ.n d = true) {b : Bool} (hv : (!(lveq l r)) = b) (h : L2 Γ ops S need pl k (e.put d (.bool b)) H) : L2 Γ ops S need (.step true i pl) k e H := by
 subst hv
 exact d_yield ho hg hd (fun w _ => run_nes hx hy hk hb h1 h2 w) h
end
end
end Go.VV
namespace Go.VV
open Go Go.RowKit
end Go.VV
namespace Go.VV
open Go
end Go.VV
namespace Go.VV
open Go
end Go.VV
namespace Go.VV
open Go
end Go.VV
namespace Go.Proofs.YtldehodcfajpjaaGreat
open Go Go.VV
theorem cAc_len (a : Ac) : (cAc a).length = 3 := rfl
end Go.Proofs.YtldehodcfajpjaaGreat
