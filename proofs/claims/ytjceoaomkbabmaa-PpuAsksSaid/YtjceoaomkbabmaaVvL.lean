/- Equality of arrays of numbers. Plain lemmas; no program. -/
import Derived.Test.YtjceoaomkbabmaaVvK
import Derived.Laws.StructEq
namespace Go.VV
open Go

theorem all_range_int : ∀ (xs ys : List Int), xs.length = ys.length → ((List.range xs.length).all fun i => xs.getD i 0 == ys.getD i 0) = (xs == ys)
  | [], [], _ => rfl
  | x :: xs, y :: ys, h => by
    have ih := all_range_int xs ys (by simpa using h)
    rw [List.length_cons, List.range_succ_eq_map, List.all_cons, List.all_map]
    simp only [List.getD_cons_zero, Function.comp_def, List.getD_cons_succ, ih]
    simp [List.cons_beq_cons]
  | [], _ :: _, h => by simp at h
  | _ :: _, [], h => by simp at h

section
variable {P : Program} (w : World)
theorem run_equalIn_ints (d : Nat) (t e : TypeId) (n : Nat) (kd : IntKind) (ht : P.underlying t = some (.array n e)) (he : P.underlying e = some (.int kd)) (hsz : ∀ w, (sizeOf e).run P w = .ok 1 w)
    (xs ys : List Int) (hx : xs.length = n) (hy : ys.length = n) :
    (Op.equalIn (d + 2) t (.agg (xs.map (Value.int kd)).toArray) (.agg (ys.map (Value.int kd)).toArray)).run P w = .ok (xs == ys) w := by
  rw [← all_range_int xs ys (hx.trans hy.symm), hx, List.range_eq_range', Op.equalIn]
  simp only [Sem.run_bind, run_underlying ht, Result.andThen_ok, hsz, Std.Legacy.Range.forIn_eq_forIn_range', Std.Legacy.Range.size, Nat.sub_zero, Nat.add_sub_cancel, Nat.div_one]
  have hl : ∀ i ∈ List.range' 0 n 1, i < n := fun i hi => by simpa using (List.mem_range'_1.1 hi).2
  generalize List.range' 0 n 1 = l at hl ⊢
  induction l with
  | nil => simp
  | cons i l ih =>
    have hi : i < n := hl i (by simp)
    have px : (part e (xs.map (Value.int kd)).toArray (i * 1)).run P w = .ok (.int kd (xs.getD i 0)) w := by
      simp [part, isAgg, run_underlying he, List.getD, List.getElem?_eq_getElem (show i < xs.length by omega)]
    have py : (part e (ys.map (Value.int kd)).toArray (i * 1)).run P w = .ok (.int kd (ys.getD i 0)) w := by
      simp [part, isAgg, run_underlying he, List.getD, List.getElem?_eq_getElem (show i < ys.length by omega)]
    have pe : (Op.equalIn (d + 1) e (.int kd (xs.getD i 0)) (.int kd (ys.getD i 0))).run P w = .ok (xs.getD i 0 == ys.getD i 0) w := run_equalIn_int w d e kd kd _ _ he
    simp only [List.forIn_cons, Sem.run_bind, px, py, pe, Result.andThen_ok, List.all_cons]
    cases hb : (xs.getD i 0 == ys.getD i 0)
    · simp
    · simp only [Bool.not_true, Bool.false_eq_true, if_false, Sem.run_pure, Result.andThen_ok, Bool.true_and]
      exact ih fun j hj => hl j (by simp [hj])

/-- '==' on two arrays of numbers. -/
theorem run_eqa {en : Env} {d : Option Nat} {x y : Operand} {t el u ty n : Nat} {kd : IntKind} {pos : String} {af : Array Edge} {g : Option (Nat × Bool)} {xs ys : List Int}
    (hx : ev en x = .agg (xs.map (Value.int kd)).toArray) (hy : ev en y = .agg (ys.map (Value.int kd)).toArray) (hu : arrP P t = some (n, el, 1)) (he : P.underlying el = some (.int kd))
    (hg : P.eqGuardType P.depth t = false) (hxl : xs.length = n) (hyl : ys.length = n) :
    (execOp (ev en) ⟨d, .binOp .eql t x y u, ty, pos, af, g⟩).run P w = .ok (.value (.bool (xs == ys))) w := by
  obtain ⟨h1, h2⟩ := arrP_spec hu
  have key := run_equalIn_ints (P := P) w 9998 t el n kd h1 he (fun w => run_sizeOf h2 w) xs ys hxl hyl
  have hb := run_eql_struct (P := P) w t (xs.map (Value.int kd)).toArray (ys.map (Value.int kd)).toArray
  simp only [execOp, hx, hy, Sem.run_bind]
  have hgd : (eqGuard .eql t x y (.agg (xs.map (Value.int kd)).toArray) (.agg (ys.map (Value.int kd)).toArray)).run P w = .ok () w := by
    simp [eqGuard, hg]
  rw [hgd]
  simp only [Result.andThen_ok]
  rw [hb, key]
  rfl
end
end Go.VV
