/- Append to an empty literal slice, wherever its block stands. -/
import Derived.Test.YtiadmbhafplepaaDoorYB
import Derived.Test.YtiadmbhafplepaaDoorYC
import Derived.Test.YtiadmbhafplepaaDoorYE
namespace Go.VV
open Go Go.RowKit
variable {Γ : Ctx} {e : Env} {d : Option Nat} {ty : TypeId} {pos : String} {af : Array Edge} {g : Option (Nat × Bool)}

theorem x_appendN {t : TypeId} {x y : Operand} {T by_ b m c2 : Nat} {a2 : Option Addr} {ys : List Value} {A R : Heap} {ts : Array TypeId}
    (hx : vnf (ev e x) = some (.slice (some ⟨b, 0, none⟩) 0 0)) (hy : vnf (ev e y) = some (.slice a2 m c2)) (hts : ts = #[t, t]) (hp : appP Γ.P t = some (T, 1, by_))
    (hs : ∀ w, St Γ.w0 Γ.ms (A ++ ((b, blk [] T) :: R)) w → Src w 1 (.slice a2 m c2) m ys) (h1 : ones ys = true) (hlen : m ≤ 140737488355328) (hb : m * by_ ≤ 140737488355328) :
    Op1 Γ ⟨d, .call ⟨.builtin .append, #[x, y], ts⟩, ty, pos, af, g⟩ e (A ++ ((b, blk [] T) :: R)) (fun v' H' => ∃ b' c sp, v' = .slice (some ⟨b', 0, none⟩) m c ∧ (ys ++ sp).length = c ∧ c ≤ maxLen ∧ m ≤ c ∧ H' = (b', blk (ys ++ sp) T) :: (A ++ R)) := by
  by_cases h0 : m = 0
  · have key := x_appendZ (Γ := Γ) (d := d) (ty := ty) (pos := pos) (af := af) (g := g) (H := A ++ ((b, blk [] T) :: R)) hx hy h0 hts hp (Nat.le_refl 0)
    intro w hw
    refine opW_mono (key w hw) ?_
    rintro v' w' ⟨H', h2, rfl, rfl⟩
    subst h0
    have hys : ys = [] := by
      cases hs w hw with
      | row _ _ _ _ _ hn _ => exact List.eq_nil_of_length_eq_zero (by simpa using hn)
    subst hys
    exact ⟨_, h2.perm List.perm_middle, b, 0, [], rfl, rfl, Nat.zero_le _, Nat.le_refl _, rfl⟩
  · have key := x_append (Γ := Γ) (e := e) (d := d) (ty := ty) (pos := pos) (af := af) (g := g) (A := A) (G := [(b, blk ([] ++ []) T)]) (R := R) (vnf_eq hx) (vnf_eq hy) hts hp (Vec.row b 0 0 [] [] rfl rfl (Nat.zero_le _) (Nat.le_refl _)) hs h1 (by omega) (by rwa [Nat.zero_add])
    intro w hw
    refine opW_mono (key w hw) ?_
    rintro v' w' ⟨H', h2, G', hV, -, rfl⟩
    obtain ⟨b', cap, sp, rfl, rfl, h3, h4, h5⟩ := hV.full (by omega)
    rw [Nat.zero_add] at *
    exact ⟨_, h2, b', cap, sp, rfl, by simpa using h3, h5, h4, rfl⟩
end Go.VV
