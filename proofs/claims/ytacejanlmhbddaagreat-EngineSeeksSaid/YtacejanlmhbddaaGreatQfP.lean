/- Parts. -/
import Derived.Test.YtacejanlmhbddaaGreatQfN
set_option maxRecDepth 100000
set_option maxHeartbeats 1000000
set_option linter.all false
namespace Go.Proofs.YtacejanlmhbddaaGreat
open Go Go.VV Go.Proofs Go.RowKit
section
variable {m : Mm} {a x k : Int} {is : Bool}
def mY : (askM k is m).steps = m.steps := by unfold askM; split <;> rfl
def aI8 : (iN a x m).steps = m.steps := by
 unfold iN
 repeat' split
 all_goals rfl
def aMb : (setDeviceM a x m).steps = m.steps := by
 unfold setDeviceM
 split
 ·exact mY
 repeat' split
 all_goals rfl
def aJN : (pokeM a x m).steps = m.steps := by
 unfold pokeM
 split
 ·unfold nI; split <;> rfl
 split
 ·exact mY
 split
 ·exact aI8
 split
 ·rfl
 split
 ·rfl
 ·exact aMb
def nW : (cycleM m).steps = m.steps := by
 have h1 : (cyc1 m).steps = m.steps := mY
 have h2 : (cyc2 (cyc1 m)).steps = m.steps := (mY (m := { cyc1 m with pt := tickPt (cyc1 m).pt })).trans h1
 have h3 : (cyc3 (cyc2 (cyc1 m))).steps = m.steps := by
  unfold cyc3; split
  ·exact h2
  ·exact h2
 have h5 : (cyc5 (cyc4 (cyc3 (cyc2 (cyc1 m))))).steps = m.steps := (mY.trans (mY (m := { cyc4 (cyc3 (cyc2 (cyc1 m))) with u := tickU (cyc4 (cyc3 (cyc2 (cyc1 m)))).u }))).trans h3
 show (nJ _).steps = _
 unfold nJ; split
 ·exact h5
 ·exact h5
end
def aU3 (R : Mm) (D : Prop) (s : Int) : aVh Mm where
 toaVg := dY
 ok n m := MmG R D n m ∧ m.steps = s
 oF := fun {n m a} h ha => ⟨⟨((tF R D).oF h.1 ha).1, nW.trans h.2⟩, ((tF R D).oF h.1 ha).2⟩
 oR := fun {n m a} h ha => ⟨⟨((tF R D).oR h.1 ha).1, nW.trans h.2⟩, ((tF R D).oR h.1 ha).2⟩
 oW := fun {n m a x} h ha hx => ⟨(tF R D).oW h.1 ha hx, by
  show (if letsCp (cycleM m).cp a = true then pokeM a x (cycleM m) else cycleM m).steps = s
  split
  ·exact aJN.trans (nW.trans h.2)
  ·exact nW.trans h.2⟩
 oI := fun {n m} h => ⟨(tF R D).oI h.1, nW.trans h.2⟩
 oP := fun h => (tF R D).oP h.1
 oA := fun h hk => ⟨(tF R D).oA h.1 hk, h.2⟩
 oL := fun h hk => ⟨(tF R D).oL h.1 hk, h.2⟩
def aG3 {R m : Mm} {D : Prop} {plan : List Chg} (hp : ∀ c ∈ plan, kN c) (h : kW R D m) : (cE plan m).2.steps = (m.steps + 1) % 18446744073709551616 := by
 have hs : (bT plan m).steps = m.steps := (mY (m := { m with pd := hY (eS plan m.steps) m.pd }))
 have hq := aDu (K := aU3 R D m.steps) (n := 0) (x := (⟨m.cpu, bT plan m⟩ : Rn Mm)) ⟨h.rg, aGW hp h, hs⟩
 show ((dJ dY (⟨m.cpu, bT plan m⟩ : Rn Mm)).2.m.steps + 1) % _ = _
 rw [show (dJ dY (⟨m.cpu, bT plan m⟩ : Rn Mm)).2.m.steps = m.steps from hq.m.2]
def aCg {R m : Mm} {D : Prop} {plan : List Chg} (hp : ∀ c ∈ plan, kN c) (h : kW R D m) (h0 : m.steps = 0) : ∀ k : Nat, k < 1000000 → (tD plan m k).steps = k
 | 0, _ => h0
 | k + 1, hk => by
  show (cE plan (tD plan m k)).2.steps = _
  rw [aG3 hp (h.run hp k), aCg hp h h0 k o_m]
  omega
def Gx.Ok.steps {g : Gx} (h : g.Ok) (k : Nat) (hk : k < 1000000) : (g.m k).steps = k := aCg h.chg (aGD h.err h.byts) rfl k hk
def EqA.steps {m n : Mm} (h : EqA m n) : n.steps = m.steps := by rw [h]
def aC8 (g : Gx) (l : List Ent) : Prop := ∀ x ∈ l, 0 ≤ x.1 ∧ x.2.1 = .int .u64 (aFX (g.enc x.1.toNat))
def aC8.new {g : Gx} {l : List Ent} (h : aC8 g l) (j n : Nat) : aC8 g (l ++ [((j : Int), .int .u64 (aFX (g.enc j)), n)]) := fun x hx => by
 rcases List.mem_append.1 hx with hx | hx
 ·exact h x hx
 ·rw [List.mem_singleton.1 hx]; exact ⟨f6 _, rfl⟩
end Go.Proofs.YtacejanlmhbddaaGreat
