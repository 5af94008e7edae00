/- '==' and '!=' on arrays of numbers, as an operation. Plain lemmas; no program. -/
import Derived.Test.YtjceoaomkbabmaaVvQ
import Derived.Test.YtjceoaomkbabmaaVwC
namespace Go.VV
open Go Go.RowKit
section
variable {P : Program} (w : World)
theorem run_nea {en : Env} {d : Option Nat} {x y : Operand} {t el u ty n : Nat} {kd : IntKind} {pos : String} {af : Array Edge} {g : Option (Nat × Bool)} {xs ys : List Int}
    (hx : ev en x = .agg (xs.map (Value.int kd)).toArray) (hy : ev en y = .agg (ys.map (Value.int kd)).toArray) (hu : arrP P t = some (n, el, 1)) (he : P.underlying el = some (.int kd))
    (hg : P.eqGuardType P.depth t = false) (hxl : xs.length = n) (hyl : ys.length = n) :
    (execOp (ev en) ⟨d, .binOp .neq t x y u, ty, pos, af, g⟩).run P w = .ok (.value (.bool (!(xs == ys)))) w := by
  obtain ⟨h1, h2⟩ := arrP_spec hu
  have key := run_equalIn_ints (P := P) w 9998 t el n kd h1 he (fun w => run_sizeOf h2 w) xs ys hxl hyl
  have hb := run_neq_struct (P := P) w t (xs.map (Value.int kd)).toArray (ys.map (Value.int kd)).toArray
  simp only [execOp, hx, hy, Sem.run_bind]
  have hgd : (eqGuard .neq t x y (.agg (xs.map (Value.int kd)).toArray) (.agg (ys.map (Value.int kd)).toArray)).run P w = .ok () w := by
    simp [eqGuard, hg]
  rw [hgd]
  simp only [Result.andThen_ok]
  rw [hb, key]
  rfl
end
section
variable {Γ : Ctx} {e : Env} {H : Heap} {d : Option Nat} {t u ty : TypeId} {pos : String} {af : Array Edge} {g : Option (Nat × Bool)}
theorem x_eqa {x y : Operand} {el n : Nat} {kd : IntKind} {xs ys : List Int} {b : Bool}
    (hx : ev e x = .agg (xs.map (Value.int kd)).toArray) (hy : ev e y = .agg (ys.map (Value.int kd)).toArray) (hu : arrP Γ.P t = some (n, el, 1)) (he : Γ.P.underlying el = some (.int kd))
    (hg : Γ.P.eqGuardType Γ.P.depth t = false) (hxl : xs.length = n) (hyl : ys.length = n) (hb : (xs == ys) = b) :
    Op1 Γ ⟨d, .binOp .eql t x y u, ty, pos, af, g⟩ e H (fun v H' => v = .bool b ∧ H' = H) := fun w hw => opW_run (run_eqa w hx hy hu he hg hxl hyl) ⟨H, hw, by rw [hb], rfl⟩
theorem x_nea {x y : Operand} {el n : Nat} {kd : IntKind} {xs ys : List Int} {b : Bool}
    (hx : ev e x = .agg (xs.map (Value.int kd)).toArray) (hy : ev e y = .agg (ys.map (Value.int kd)).toArray) (hu : arrP Γ.P t = some (n, el, 1)) (he : Γ.P.underlying el = some (.int kd))
    (hg : Γ.P.eqGuardType Γ.P.depth t = false) (hxl : xs.length = n) (hyl : ys.length = n) (hb : (!(xs == ys)) = b) :
    Op1 Γ ⟨d, .binOp .neq t x y u, ty, pos, af, g⟩ e H (fun v H' => v = .bool b ∧ H' = H) := fun w hw => opW_run (run_nea w hx hy hu he hg hxl hyl) ⟨H, hw, by rw [hb], rfl⟩
end
end Go.VV
