/- Equality of truth values, as an operation that only computes. Plain lemmas; no program. -/
import Derived.Test.YtjceoaomkbabmaaVvH
namespace Go.VV
open Go

theorem equal_bool {P : Program} {t : TypeId} {a b : Bool} (hu : P.underlying t = some .bool) : pureOf P (Op.equal t (.bool a) (.bool b)) = some (a == b) := by
  obtain ⟨n, hn⟩ : ∃ n, Op.maxDepth = n + 1 := ⟨9999, rfl⟩
  unfold Op.equal
  rw [hn]
  simp only [Op.equalIn]
  rw [pure_underlying hu]
  rfl
theorem pure_bound {α β : Type} {P : Program} {s : Sem α} {f : α → Sem β} {a : α} (h : pureOf P s = some a) : pureOf P (s >>= f) = pureOf P (f a) := by
  induction s with
  | pure b => simp only [pureOf] at h; cases h; rfl
  | program k ih => simp only [pureOf] at h; exact ih P h
  | _ => simp [pureOf] at h

section
variable {P : Program} {e : Env} {d : Option Nat} {x y : Operand} {t ty : TypeId} {u : TypeId} {pos : String} {af : Array Edge} {g : Option (Nat × Bool)} {a b : Bool}
theorem light_eqb (hx : vnf (ev e x) = some (.bool a)) (hy : vnf (ev e y) = some (.bool b)) (hu : P.underlying t = some .bool) :
    light P e ⟨d, .binOp .eql t x y u, ty, pos, af, g⟩ = some (.bool (a == b)) := by
  refine light_of_pure ?_ rfl
  have hx := vnf_eq hx
  have hy := vnf_eq hy
  have key := equal_bool (a := a) (b := b) hu
  generalize hE : Op.equal t (.bool a) (.bool b) = E at key
  simp only [execOp, hx, hy]
  unfold eqGuard binOp
  simp only [hE]
  simp only [Bool.not_true, Bool.false_eq_true, if_false, pure_bind, bind_assoc]
  exact (pure_bound key).trans rfl
theorem light_neb (hx : vnf (ev e x) = some (.bool a)) (hy : vnf (ev e y) = some (.bool b)) (hu : P.underlying t = some .bool) :
    light P e ⟨d, .binOp .neq t x y u, ty, pos, af, g⟩ = some (.bool (!(a == b))) := by
  refine light_of_pure ?_ rfl
  have hx := vnf_eq hx
  have hy := vnf_eq hy
  have key := equal_bool (a := a) (b := b) hu
  generalize hE : Op.equal t (.bool a) (.bool b) = E at key
  simp only [execOp, hx, hy]
  unfold eqGuard binOp
  simp only [hE]
  simp only [Bool.not_true, Bool.false_eq_true, if_false, pure_bind, bind_assoc]
  exact (pure_bound key).trans rfl
end
/-- A part that only computes: what it leaves in the slots 'M' is 'vs'; the heap is as it was. -/
theorem c_keep {Γ : Ctx} {k : Kont} {e : Env} {L : Heap} {x y : Code} (M : List Nat) (vs : List (Nat × Value))
    (h1 : C Γ x ⟨fun e' L' => Sits e' vs ∧ Agree M e' e ∧ (∀ w, St Γ.w0 Γ.ms L' w → St Γ.w0 Γ.ms L w), k.R, k.X⟩ e L)
    (h2 : ∀ u, C Γ y k (mix M vs u e) L) : C Γ (.seq x y) k e L :=
  c_cut (σ := Unit) M (fun _ => vs) (fun _ => L) (fun _ => True) (c_mono h1 (by rintro (_ | _ | j) e' L' h <;> first | exact ⟨(), trivial, h.1, h.2.1, h.2.2⟩ | exact h)) (fun _ u _ => h2 u)
/-- Behind a part that was shut off. -/
theorem Agree.keep {M M' : List Nat} {vs : List (Nat × Value)} {x e e0 : Env} (hs : (M'.all (fun t => M.any (Nat.beq t)) && vs.all (fun p => M.any (Nat.beq p.1))) = true) (h : Agree M e e0) : Agree M (VV.mix M' vs x e) e0 := by
  simp only [Bool.and_eq_true, List.all_eq_true] at hs
  intro t ht
  unfold VV.mix
  cases hq : vs.find? (fun p => Nat.beq p.1 t) with
  | some p =>
    exfalso
    have h1 := List.mem_of_find?_eq_some hq
    have h2 := hs.2 p h1
    have h3 : Nat.beq p.1 t = true := by have := List.find?_some hq; simpa using this
    rw [Nat.eq_of_beq_eq_true h3, ht] at h2
    cases h2
  | none =>
    cases hm : M'.any (Nat.beq t) with
    | false => exact h t ht
    | true =>
      exfalso
      obtain ⟨u, hu, hb⟩ := List.any_eq_true.1 hm
      have h2 := hs.1 u hu
      rw [← Nat.eq_of_beq_eq_true hb, ht] at h2
      cases h2
/-- A loop that leaves the heap as it was. -/
theorem c_loopk {Γ : Ctx} {k : Kont} {e : Env} {L : Heap} {σ : Type} {c : Code} (M : List Nat) (vs : σ → List (Nat × Value)) (J : σ → Prop) (μ : σ → Nat) (s0 : σ)
    (h0 : J s0) (hv : Sits e (vs s0))
    (round : ∀ s x, J s → C Γ c ⟨fun e' L' => ∃ s', J s' ∧ μ s' < μ s ∧ Sits e' (vs s') ∧ Agree M e' e ∧ (∀ w, St Γ.w0 Γ.ms L' w → St Γ.w0 Γ.ms L w), k.R, k.X⟩ (mix M (vs s) x e) L) :
    C Γ (.loop c) k e L := c_loop M vs (fun _ => L) J μ s0 h0 hv (fun _ h => h) round
end Go.VV
