/- How many cycles a step takes, on any bus that notes them. Plain laws, no program. -/
import Derived.Test.YtldehodcfajpjaaGreatQcM
set_option linter.unusedSimpArgs false
set_option linter.unusedVariables false
set_option maxRecDepth 100000
namespace Go.Proofs.YtldehodcfajpjaaGreat
open Go Go.VV
section
variable {plan : List Chg} {R m n : Mm}
theorem startM_acc (x : List Ac) : startM plan { m with acc := x } = startM plan m := by unfold startM pressM askM; dsimp only; split <;> rfl
theorem stepM_acc (x : List Ac) : stepM plan { m with acc := x } = stepM plan m := by unfold stepM; rw [startM_acc]
def EqA (m n : Mm) : Prop := n = { m with acc := n.acc }
theorem EqA.step (h : EqA m n) : stepM plan n = stepM plan m := by rw [h]; exact stepM_acc _
theorem EqA.enc (h : EqA m n) : encA n = encA m := by rw [h]; rfl
theorem EqA.run (h : EqA m n) : ∀ i, EqA (runM plan m i) (runM plan n i)
 | 0 => h
 | i + 1 => by
  have e : (stepM plan (runM plan n i)).2 = (stepM plan (runM plan m i)).2 := by rw [(h.run i).step]
  show (stepM plan (runM plan n i)).2 = { (stepM plan (runM plan m i)).2 with acc := (stepM plan (runM plan n i)).2.acc }
  rw [e]
theorem MInv.acc_ (h : MInv R True m) (x : List Ac) : MInv R True { m with acc := x } := ⟨h.wf.acc_ x, h.rg, ⟨h.fr.rom, h.fr.hd, h.fr.ram, h.fr.kind, h.fr.banks, h.fr.size⟩, fun _ => ⟨(h.dec trivial).good, (h.dec trivial).dy⟩⟩
end
structure Lg {β : Type} (A : BusA β) (lg : β → List Ac) : Prop where
 fetch : ∀ a m, lg (A.fetch a m).2 = lg m ++ [⟨3, a, (A.fetch a m).1⟩]
 read : ∀ a m, lg (A.read a m).2 = lg m ++ [⟨1, a, (A.read a m).1⟩]
 write : ∀ a x m, lg (A.write a x m) = lg m ++ [⟨2, a, x⟩]
 idle : ∀ m, lg (A.idle m) = lg m ++ [⟨0, 0, 0⟩]
 ack : ∀ n m, lg (A.ack n m) = lg m
variable {β : Type} {lg : β → List Ac}
variable (lg) in
structure Lc (c : Nat) (x y : Rn β) : Prop where
 acc : ∃ l, lg y.m = lg x.m ++ l ∧ l.length ≤ c ∧ ∀ e ∈ l, e.kind ≠ 3
 f : x.s.r.f % 16 = 0 → y.s.r.f % 16 = 0
theorem Lc.refl (x : Rn β) : Lc lg 0 x x := ⟨⟨[], by simp, by simp, by simp⟩, fun h => h⟩
theorem Lc.trans {c d : Nat} {x y z : Rn β} (h : Lc lg c x y) (h' : Lc lg d y z) : Lc lg (c + d) x z := by
 obtain ⟨⟨l, h1, h2, h3⟩, h4⟩ := h
 obtain ⟨⟨k, g1, g2, g3⟩, g4⟩ := h'
 refine ⟨⟨l ++ k, by rw [g1, h1, List.append_assoc], by rw [List.length_append]; omega, fun e he => ?_⟩, fun hf => g4 (h4 hf)⟩
 rcases List.mem_append.1 he with he | he
 ·exact h3 e he
 ·exact g3 e he
theorem Lc.le {c d : Nat} {x y : Rn β} (h : Lc lg c x y) (hd : c ≤ d) : Lc lg d x y := ⟨by obtain ⟨l, h1, h2, h3⟩ := h.acc; exact ⟨l, h1, y_D, h3⟩, h.f⟩
theorem Lc.one {x y : Rn β} (k : Int) {a v : Int} (h : lg y.m = lg x.m ++ [⟨k, a, v⟩]) (hk : k ≠ 3) (hf : x.s.r.f % 16 = 0 → y.s.r.f % 16 = 0) : Lc lg 1 x y := ⟨⟨[⟨k, a, v⟩], h, by simp, by intro e' he; rw [List.mem_singleton.1 he]; exact hk⟩, hf⟩
theorem Lc.none {x y : Rn β} (h : lg y.m = lg x.m) (hf : x.s.r.f % 16 = 0 → y.s.r.f % 16 = 0) : Lc lg 0 x y := ⟨⟨[], by simp [h], by simp, by simp⟩, hf⟩
theorem Lc.then {c : Nat} {x y z : Rn β} (h : Lc lg c x y) (ha : lg z.m = lg y.m) (hf : y.s.r.f % 16 = 0 → z.s.r.f % 16 = 0) : Lc lg c x z := (h.trans (Lc.none ha hf)).le (Nat.le_refl _)
end Go.Proofs.YtldehodcfajpjaaGreat
