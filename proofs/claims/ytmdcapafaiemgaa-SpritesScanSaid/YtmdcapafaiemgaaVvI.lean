/- Equality of truth values, as an operation that only computes. Plain lemmas; no program. -/
import Derived.Test.YtmdcapafaiemgaaVvH
namespace Go.VV
open Go

theorem equal_bool {P : Program} {t : TypeId} {a b : Bool} (hu : P.underlying t = some .bool) : pureOf P (Op.equal t (.bool a) (.bool b)) = some (a == b) := by
  obtain ⟨n, hn⟩ : ∃ n, Op.maxDepth = n + 1 := ⟨9999, rfl⟩
  unfold Op.equal
  rw [hn]
  simp only [Op.equalIn]
  rw [pure_underlying hu]
  rfl
theorem pure_bound {α β : Type} {P : Program} {s : Sem α} {f : α → Sem β} {a : α} (h : pureOf P s = some a) : pureOf P (s >>= f) = pureOf P (f a) := by
  induction s with
  | pure b => simp only [pureOf] at h; cases h; rfl
  | program k ih => simp only [pureOf] at h; exact ih P h
  | _ => simp [pureOf] at h

section
variable {P : Program} {e : Env} {d : Option Nat} {x y : Operand} {t ty : TypeId} {u : TypeId} {pos : String} {af : Array Edge} {g : Option (Nat × Bool)} {a b : Bool}
theorem light_eqb (hx : vnf (ev e x) = some (.bool a)) (hy : vnf (ev e y) = some (.bool b)) (hu : P.underlying t = some .bool) :
    light P e ⟨d, .binOp .eql t x y u, ty, pos, af, g⟩ = some (.bool (a == b)) := by
  refine light_of_pure ?_ rfl
  have hx := vnf_eq hx
  have hy := vnf_eq hy
  have key := equal_bool (a := a) (b := b) hu
  generalize hE : Op.equal t (.bool a) (.bool b) = E at key
  simp only [execOp, hx, hy]
  unfold eqGuard binOp
  simp only [hE]
  simp only [Bool.not_true, Bool.false_eq_true, if_false, pure_bind, bind_assoc]
  exact (pure_bound key).trans rfl
theorem light_neb (hx : vnf (ev e x) = some (.bool a)) (hy : vnf (ev e y) = some (.bool b)) (hu : P.underlying t = some .bool) :
    light P e ⟨d, .binOp .neq t x y u, ty, pos, af, g⟩ = some (.bool (!(a == b))) := by
  refine light_of_pure ?_ rfl
  have hx := vnf_eq hx
  have hy := vnf_eq hy
  have key := equal_bool (a := a) (b := b) hu
  generalize hE : Op.equal t (.bool a) (.bool b) = E at key
  simp only [execOp, hx, hy]
  unfold eqGuard binOp
  simp only [hE]
  simp only [Bool.not_true, Bool.false_eq_true, if_false, pure_bind, bind_assoc]
  exact (pure_bound key).trans rfl
end
end Go.VV
