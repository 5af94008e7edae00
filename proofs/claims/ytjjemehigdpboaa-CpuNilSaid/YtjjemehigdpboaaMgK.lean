/- What isn't read plays no part. Plain laws, no program's code. -/
import Derived.Test.YtjjemehigdpboaaMgC
import Derived.Test.YtjjemehigdpboaaMgF
import Derived.Test.YtjjemehigdpboaaMgJ
namespace Go.Proofs.Ytjjemehigdpboaa
open Go Go.VV

/-- What holds of two buses, as long as the first one is good. -/
structure Sim {α β : Type} (A : BusA α) (B : BusA β) where
  le : α → α → Prop
  good : α → Prop
  R : α → β → Prop
  refl : ∀ m, le m m
  trans : ∀ {a b c}, le a b → le b c → le a c
  anti : ∀ {a b}, le a b → good b → good a
  fetch_le : ∀ a m, le m (A.fetch a m).2
  read_le : ∀ a m, le m (A.read a m).2
  write_le : ∀ a x m, le m (A.write a x m)
  idle_le : ∀ m, le m (A.idle m)
  ack_le : ∀ n m, le m (A.ack n m)
  fetch : ∀ {a m o}, R m o → good (A.fetch a m).2 → (A.fetch a m).1 = (B.fetch a o).1 ∧ R (A.fetch a m).2 (B.fetch a o).2
  read : ∀ {a m o}, R m o → good (A.read a m).2 → (A.read a m).1 = (B.read a o).1 ∧ R (A.read a m).2 (B.read a o).2
  write : ∀ {a x m o}, R m o → good (A.write a x m) → R (A.write a x m) (B.write a x o)
  idle : ∀ {m o}, R m o → good (A.idle m) → R (A.idle m) (B.idle o)
  pend : ∀ {m o}, R m o → good m → A.pend m = B.pend o
  ack : ∀ {n m o}, R m o → good (A.ack n m) → R (A.ack n m) (B.ack n o)
section
variable {α β : Type} {A : BusA α} {B : BusA β} (S : Sim A B)
def SQ (m : α) (y : Rn α) (z : Rn β) : Prop := S.le m y.m ∧ (S.good y.m → y.s = z.s ∧ S.R y.m z.m)
variable {S} {m : α} {y : Rn α} {z : Rn β}
theorem SQ.start {x : Rn α} {x' : Rn β} (hs : x.s = x'.s) (hR : S.R x.m x'.m) : SQ S x.m x x' := ⟨S.refl _, fun _ => ⟨hs, hR⟩⟩
theorem SQ.s (h : SQ S m y z) (g : S.good y.m) : y.s = z.s := (h.2 g).1
theorem SQ.set (h : SQ S m y z) {s : CS} {s' : CS} (hs : S.good y.m → s = s') : SQ S m ⟨s, y.m⟩ ⟨s', z.m⟩ := ⟨h.1, fun g => ⟨hs g, (h.2 g).2⟩⟩
theorem SQ.reg (h : SQ S m y z) {r r' : CR} (hr : S.good y.m → r = r') : SQ S m (y.reg r) (z.reg r') := h.set fun g => by rw [hr g, h.s g]
theorem SQ.read (h : SQ S m y z) {a a' : Int} (ha : S.good y.m → a = a') : SQ S m (y.mem (A.read a y.m).2) (z.mem (B.read a' z.m).2) ∧ (S.good (A.read a y.m).2 → (A.read a y.m).1 = (B.read a' z.m).1) := by
  have key : ∀ g : S.good (A.read a y.m).2, y.s = z.s ∧ (A.read a y.m).1 = (B.read a' z.m).1 ∧ S.R (A.read a y.m).2 (B.read a' z.m).2 := fun g => by
    have g0 := S.anti (S.read_le a y.m) g
    rw [← ha g0]
    exact ⟨h.s g0, S.read (h.2 g0).2 g⟩
  exact ⟨⟨S.trans h.1 (S.read_le a y.m), fun g => ⟨(key g).1, (key g).2.2⟩⟩, fun g => (key g).2.1⟩
theorem SQ.write (h : SQ S m y z) {a a' v v' : Int} (ha : S.good y.m → a = a' ∧ v = v') : SQ S m (y.mem (A.write a v y.m)) (z.mem (B.write a' v' z.m)) :=
  ⟨S.trans h.1 (S.write_le a v y.m), fun g => by
    have g0 := S.anti (S.write_le a v y.m) g
    rw [← (ha g0).1, ← (ha g0).2]
    exact ⟨h.s g0, S.write (h.2 g0).2 g⟩⟩
theorem SQ.idle (h : SQ S m y z) : SQ S m (y.mem (A.idle y.m)) (z.mem (B.idle z.m)) :=
  ⟨S.trans h.1 (S.idle_le y.m), fun g => by
    have g0 := S.anti (S.idle_le y.m) g
    exact ⟨h.s g0, S.idle (h.2 g0).2 g⟩⟩
theorem SQ.ack (h : SQ S m y z) {n n' : Int} (hn : S.good y.m → n = n') : SQ S m (y.mem (A.ack n y.m)) (z.mem (B.ack n' z.m)) :=
  ⟨S.trans h.1 (S.ack_le n y.m), fun g => by
    have g0 := S.anti (S.ack_le n y.m) g
    rw [← hn g0]
    exact ⟨h.s g0, S.ack (h.2 g0).2 g⟩⟩
theorem SQ.idles (h : SQ S m y z) : ∀ n, SQ S m (idles A n y) (idles B n z)
  | 0 => h
  | n + 1 => (h.idles n).idle
theorem SQ.back (h : SQ S m y z) (g : S.good y.m) : S.good m := S.anti h.1 g
theorem SQ.gett (h : SQ S m y z) (n : Int) : SQ S m (gett A n y).2 (gett B n z).2 ∧ (S.good (gett A n y).2.m → (gett A n y).1 = (gett B n z).1 ∧ S.good y.m) := by
  unfold Go.Proofs.Ytjjemehigdpboaa.gett
  split
  · have := h.read (a := pairR y.s.r 2) (a' := pairR z.s.r 2) fun g => by rw [h.s g]
    exact ⟨this.1, fun g => ⟨this.2 g, S.anti (S.read_le _ _) g⟩⟩
  · exact ⟨h, fun g => ⟨by dsimp only; rw [h.s g], g⟩⟩
theorem SQ.sett (h : SQ S m y z) (n : Int) {v v' : Int} (hv : S.good y.m → v = v') : SQ S m (sett A n v y) (sett B n v' z) := by
  unfold Go.Proofs.Ytjjemehigdpboaa.sett
  split
  · exact h.write fun g => ⟨by rw [h.s g], hv g⟩
  · exact h.reg fun g => by rw [h.s g, hv g]
theorem SQ.push1 (h : SQ S m y z) {v v' : Int} (hv : S.good y.m → v = v') : SQ S m (push1 A v y) (push1 B v' z) := by
  have h1 := SQ.write (a := dec16 y.s.r.sp) (a' := dec16 z.s.r.sp) (SQ.reg (r := { y.s.r with sp := dec16 y.s.r.sp }) (r' := { z.s.r with sp := dec16 z.s.r.sp }) h fun g => by rw [h.s g]) (v := v) (v' := v') fun g => ⟨by rw [h.s g], hv g⟩
  exact h1
theorem SQ.push (h : SQ S m y z) {w w' : Int} (hw : S.good y.m → w = w') : SQ S m (push A w y) (push B w' z) := by
  have h1 := SQ.push1 (v := w / 256) (v' := w' / 256) h fun g => by rw [hw g]
  exact SQ.push1 h1 fun g => by rw [hw (S.anti (S.write_le _ _ _) g)]
theorem SQ.pop1 (h : SQ S m y z) : SQ S m (pop1 A y).2 (pop1 B z).2 ∧ (S.good (pop1 A y).2.m → (pop1 A y).1 = (pop1 B z).1 ∧ S.good y.m) := by
  have h1 := h.read (a := y.s.r.sp) (a' := z.s.r.sp) fun g => by rw [h.s g]
  refine ⟨h1.1.set (s := { y.s with r := { y.s.r with sp := inc16 y.s.r.sp } }) (s' := { z.s with r := { z.s.r with sp := inc16 z.s.r.sp } }) fun g => ?_, fun g => ⟨h1.2 g, S.anti (S.read_le _ _) g⟩⟩
  rw [h.s (S.anti (S.read_le _ _) g)]
theorem SQ.pop (h : SQ S m y z) : SQ S m (pop A y).2 (pop B z).2 ∧ (S.good (pop A y).2.m → (pop A y).1 = (pop B z).1 ∧ S.good y.m) := by
  have h1 := h.pop1
  have h2 := h1.1.pop1
  refine ⟨h2.1, fun g => ?_⟩
  have e2 := h2.2 g
  have e1 := h1.2 e2.2
  exact ⟨by unfold Go.Proofs.Ytjjemehigdpboaa.pop; dsimp only; rw [e2.1, e1.1], e1.2⟩
theorem SQ.change (h : SQ S m y z) (n : Int) (f : Int → Int → Int × Int) : SQ S m (change A n f y) (change B n f z) := by
  have h1 := h.gett n
  have h2 := SQ.sett (v := (f (Go.Proofs.Ytjjemehigdpboaa.gett A n y).1 (Go.Proofs.Ytjjemehigdpboaa.gett A n y).2.s.r.f).1) (v' := (f (Go.Proofs.Ytjjemehigdpboaa.gett B n z).1 (Go.Proofs.Ytjjemehigdpboaa.gett B n z).2.s.r.f).1) h1.1 n fun g => by rw [(h1.2 g).1, h1.1.s g]
  refine SQ.reg h2 fun g => ?_
  have g1 : S.good (Go.Proofs.Ytjjemehigdpboaa.gett A n y).2.m := by
    unfold Go.Proofs.Ytjjemehigdpboaa.sett at g
    split at g
    · exact S.anti (S.write_le _ _ _) g
    · exact g
  rw [h2.s g, (h1.2 g1).1, h1.1.s g1]
theorem SQ.ite {c : Prop} [Decidable c] {a b : Rn α} {a' b' : Rn β} (h1 : c → SQ S m a a') (h2 : ¬ c → SQ S m b b') : SQ S m (if c then a else b) (if c then a' else b') := by
  split
  · exact h1 (by assumption)
  · exact h2 (by assumption)
theorem gett_s' (n : Int) : (gett A n y).2.s = y.s := by unfold gett; split <;> rfl
theorem SQ.effB (h : SQ S m y z) (o : Opr) : SQ S m (effB A o y) (effB B o z) := by
  have gy := h.gett o.y
  have r : ∀ {f : CR → CR}, SQ S m (y.reg (f y.s.r)) (z.reg (f z.s.r)) := h.reg fun g => by rw [h.s g]
  unfold Go.Proofs.Ytjjemehigdpboaa.effB
  refine .ite (fun _ => gy.1.sett _ fun g => (gy.2 g).1) fun _ => ?_
  refine .ite (fun _ => h.sett _ fun _ => rfl) fun _ => ?_
  refine .ite (fun _ => gy.1.reg fun g => by rw [(gy.2 g).1, gy.1.s g]) fun _ => ?_
  refine .ite (fun _ => r (f := fun r => sumR r o.x (o.n % 256))) fun _ => ?_
  refine .ite (fun _ => h.change _ _) fun _ => ?_
  refine .ite (fun _ => h.change _ _) fun _ => ?_
  refine .ite (fun _ => h.change _ _) fun _ => ?_
  refine .ite (fun _ => r (f := fun r => { r with a := turnR o.x r.a r.f, f := fl false false false (turnO o.x r.a) })) fun _ => ?_
  refine .ite (fun _ => gy.1.reg fun g => by rw [(gy.2 g).1, gy.1.s g, h.s (gy.2 g).2]) fun _ => ?_
  refine .ite (fun _ => gy.1.sett _ fun g => by rw [(gy.2 g).1]) fun _ => ?_
  refine .ite (fun _ => gy.1.sett _ fun g => by rw [(gy.2 g).1]) fun _ => ?_
  refine .ite (fun _ => r (f := fun r => { r with a := daaR r.a r.f, f := daaF r.a r.f })) fun _ => ?_
  refine .ite (fun _ => r (f := fun r => { r with a := 255 - r.a, f := fl (zF r.f) true true (cF r.f) })) fun _ => ?_
  refine .ite (fun _ => r (f := fun r => { r with f := fl (zF r.f) false false true })) fun _ => ?_
  exact .ite (fun _ => r (f := fun r => { r with f := fl (zF r.f) false false (!cF r.f) })) fun _ => h
theorem SQ.effW (h : SQ S m y z) (o : Opr) : SQ S m (effW A o y) (effW B o z) := by
  have r : ∀ (f : CR → CR), SQ S m (y.reg (f y.s.r)) (z.reg (f z.s.r)) := fun f => h.reg fun g => by rw [h.s g]
  unfold Go.Proofs.Ytjjemehigdpboaa.effW
  refine .ite (fun _ => r (fun r => setPR r o.x o.n)) fun _ => ?_
  refine .ite (fun _ => (r (fun r => setPR r o.x (inc16 (pairR r o.x)))).idles 1) fun _ => ?_
  refine .ite (fun _ => (r (fun r => setPR r o.x (dec16 (pairR r o.x)))).idles 1) fun _ => ?_
  refine .ite (fun _ => (r (fun r => setPR { r with f := add16F (pairR r 2) (pairR r o.x) r.f } 2 (add16R (pairR r 2) (pairR r o.x)))).idles 1) fun _ => ?_
  refine .ite (fun _ => (r (fun r => { r with sp := shR r.sp (o.n % 256), f := shF r.sp (o.n % 256) })).idles 2) fun _ => ?_
  refine .ite (fun _ => (r (fun r => setPR { r with f := shF r.sp (o.n % 256) } 2 (shR r.sp (o.n % 256)))).idles 1) fun _ => ?_
  refine .ite (fun _ => (r (fun r => { r with sp := pairR r 2 })).idles 1) fun _ => ?_
  refine .ite (fun _ => (h.idles 1).push fun g => by rw [(h.idles 1).s g]) fun _ => ?_
  refine .ite (fun _ => h.pop.1.reg fun g => by rw [(h.pop.2 g).1, h.pop.1.s g]) fun _ => ?_
  refine .ite (fun _ => ?_) fun _ => h
  have h1 := h.write (a := o.n) (a' := o.n) (v := y.s.r.sp % 256) (v' := z.s.r.sp % 256) fun g => ⟨rfl, by rw [h.s g]⟩
  exact h1.write (a := inc16 o.n) (a' := inc16 o.n) (v := y.s.r.sp / 256) (v' := z.s.r.sp / 256) fun g => ⟨rfl, by rw [show y.s = z.s from h1.s g]⟩
theorem SQ.place (h : SQ S m y z) (o : Opr) : SQ S m (place o y).2 (place o z).2 ∧ (place o y).2.m = y.m ∧ (S.good y.m → (place o y).1 = (place o z).1) := by
  unfold Go.Proofs.Ytjjemehigdpboaa.place
  split
  · unfold far
    split
    · exact ⟨h, rfl, fun g => by dsimp only; rw [h.s g]⟩
    · exact ⟨h.reg fun g => by rw [h.s g], rfl, fun g => by dsimp only; rw [h.s g]⟩
  · split
    · exact ⟨h, rfl, fun _ => rfl⟩
    · split
      · exact ⟨h, rfl, fun g => by dsimp only; rw [h.s g]⟩
      · exact ⟨h, rfl, fun _ => rfl⟩
theorem SQ.effP (h : SQ S m y z) (o : Opr) : SQ S m (effP A o y) (effP B o z) := by
  obtain ⟨hp, hm, ha⟩ := h.place o
  unfold Go.Proofs.Ytjjemehigdpboaa.effP
  dsimp only
  split
  · have h1 := hp.read (a := (Go.Proofs.Ytjjemehigdpboaa.place o y).1) (a' := (Go.Proofs.Ytjjemehigdpboaa.place o z).1) fun g => ha (hm ▸ g)
    exact h1.1.set fun g => by rw [h1.2 g, hp.s (S.anti (S.read_le _ _) g)]
  · exact hp.write fun g => ⟨ha (hm ▸ g), by rw [hp.s g]⟩
theorem SQ.goto (h : SQ S m y z) {w w' : Int} (hw : S.good y.m → w = w') : SQ S m (goto w y) (goto w' z) := h.reg fun g => by rw [hw g, h.s g]
theorem SQ.effJ (h : SQ S m y z) (o : Opr) (hs : y.s = z.s) : SQ S m (effJ A o y) (effJ B o z) := by
  unfold Go.Proofs.Ytjjemehigdpboaa.effJ
  dsimp only
  rw [show metJ o y = metJ o z by unfold metJ; rw [hs]]
  have hx : SQ S m (if o.kind = 26 ∧ o.x ≠ 4 then Go.Proofs.Ytjjemehigdpboaa.idles A 1 y else y) (if o.kind = 26 ∧ o.x ≠ 4 then Go.Proofs.Ytjjemehigdpboaa.idles B 1 z else z) := .ite (fun _ => h.idles 1) fun _ => h
  have hs2 : (if o.kind = 26 ∧ o.x ≠ 4 then Go.Proofs.Ytjjemehigdpboaa.idles A 1 y else y).s = (if o.kind = 26 ∧ o.x ≠ 4 then Go.Proofs.Ytjjemehigdpboaa.idles B 1 z else z).s := by split <;> exact hs
  generalize (if o.kind = 26 ∧ o.x ≠ 4 then Go.Proofs.Ytjjemehigdpboaa.idles A 1 y else y) = y2 at hx hs2 ⊢
  generalize (if o.kind = 26 ∧ o.x ≠ 4 then Go.Proofs.Ytjjemehigdpboaa.idles B 1 z else z) = z2 at hx hs2 ⊢
  refine .ite (fun _ => hx) fun _ => ?_
  refine .ite (fun _ => (hx.idles 1).goto fun _ => by rw [hs2]) fun _ => ?_
  refine .ite (fun _ => (hx.idles 1).goto fun _ => rfl) fun _ => ?_
  refine .ite (fun _ => ((hx.idles 1).push fun _ => by rw [hs2]).goto fun _ => rfl) fun _ => ?_
  refine .ite (fun _ => ?_) fun _ => ?_
  · have h1 := (hx.set (s := { y2.s with ime := true }) (s' := { z2.s with ime := true }) fun _ => by rw [hs2]).pop
    exact (h1.1.goto fun g => (h1.2 g).1).idles 1
  · refine .ite (fun _ => ?_) fun _ => ?_
    · have h1 := hx.pop
      exact (h1.1.goto fun g => (h1.2 g).1).idles 1
    · exact .ite (fun _ => hx.goto fun _ => by rw [hs2]) fun _ => hx
theorem SQ.ordT (h : SQ S m y z) (o : Opr) (p : Int) (hs : y.s = z.s) : (ordT A o p y).1 = (ordT B o p z).1 ∧ SQ S m (ordT A o p y).2 (ordT B o p z).2 := by
  unfold Go.Proofs.Ytjjemehigdpboaa.ordT
  split
  · exact ⟨rfl, h.set fun _ => by rw [hs]⟩
  split
  · exact ⟨rfl, h.set fun _ => by rw [hs]⟩
  split
  · exact ⟨rfl, h.goto fun _ => rfl⟩
  split
  · exact ⟨rfl, h.set fun _ => by rw [hs]⟩
  split
  · exact ⟨rfl, h.set fun _ => by rw [hs]⟩
  split
  · exact ⟨rfl, h.effB o⟩
  split
  · exact ⟨rfl, h.effW o⟩
  split
  · exact ⟨rfl, h.effP o⟩
  · exact ⟨by unfold metJ; rw [hs], h.effJ o hs⟩
structure NQ (S : Sim A B) (m : α) (p : Nx α) (q : Nx β) : Prop where
  x : SQ S m p.x q.x
  eq : S.good p.x.m → p.b = q.b ∧ p.o = q.o
theorem NQ.next {p : Nx α} {q : Nx β} (h : NQ S m p q) (i : Nat) : NQ S m (nx1 A p i) (nx1 B q i) ∧ (S.good (nx1 A p i).x.m → S.good p.x.m) := by
  have hb : ∀ g : S.good (A.fetch p.x.s.r.pc p.x.m).2, S.good p.x.m := fun g => S.anti (S.fetch_le _ _) g
  have key : ∀ g : S.good (A.fetch p.x.s.r.pc p.x.m).2, (A.fetch p.x.s.r.pc p.x.m).1 = (B.fetch q.x.s.r.pc q.x.m).1 ∧ S.R (A.fetch p.x.s.r.pc p.x.m).2 (B.fetch q.x.s.r.pc q.x.m).2 := fun g => by
    rw [← h.x.s (hb g)]; exact S.fetch (h.x.2 (hb g)).2 g
  refine ⟨⟨⟨S.trans h.x.1 (S.fetch_le _ _), fun g => ⟨?_, (key g).2⟩⟩, fun g => ?_⟩, hb⟩
  · show ({ p.x.s with r := { p.x.s.r with pc := inc16 p.x.s.r.pc } } : CS) = _
    rw [h.x.s (hb g)]; rfl
  · have e := h.eq (hb g)
    have k := (key g).1
    refine ⟨?_, ?_⟩
    · show p.b.set i (A.fetch p.x.s.r.pc p.x.m).1 = q.b.set i (B.fetch q.x.s.r.pc q.x.m).1
      rw [e.1, k]
    · show dcd ((p.b.set i (A.fetch p.x.s.r.pc p.x.m).1).getD 0 0) ((p.b.set i (A.fetch p.x.s.r.pc p.x.m).1).getD 1 0) ((p.b.set i (A.fetch p.x.s.r.pc p.x.m).1).getD 2 0) = dcd ((q.b.set i (B.fetch q.x.s.r.pc q.x.m).1).getD 0 0) ((q.b.set i (B.fetch q.x.s.r.pc q.x.m).1).getD 1 0) ((q.b.set i (B.fetch q.x.s.r.pc q.x.m).1).getD 2 0)
      rw [e.1, k]
theorem SQ.next (h : SQ S m y z) : SQ S m (nextT A y).2 (nextT B z).2 ∧ (S.good (nextT A y).2.m → (nextT A y).1 = (nextT B z).1) ∧ (S.good (nextT A y).2.m → S.good m) := by
  have h0 : NQ S m (nx0 y) (nx0 z) := ⟨h, fun _ => ⟨rfl, rfl⟩⟩
  have h1 := h0.next 0
  have h2 := h1.1.next 1
  have h3 := h2.1.next 2
  have hl : S.le m (nextT A y).2.m := by
    unfold nextT; split
    · exact h1.1.x.1
    · split
      · exact h2.1.x.1
      · exact h3.1.x.1
  have key : S.good (nextT A y).2.m → (nextT A y).2.s = (nextT B z).2.s ∧ S.R (nextT A y).2.m (nextT B z).2.m ∧ (nextT A y).1 = (nextT B z).1 := fun g => by
    unfold nextT at g ⊢
    split at g
    · rename_i hc
      have e := (h1.1.eq g).2
      rw [if_pos hc, if_pos (show (nxN B z 1).o.size ≤ 1 from (show (nxN A y 1).o = (nxN B z 1).o from e) ▸ hc)]
      exact ⟨(h1.1.x.2 g).1, (h1.1.x.2 g).2, e⟩
    · rename_i hc
      split at g
      · rename_i hc2
        have e := (h2.1.eq g).2
        have e1 := (h1.1.eq (h2.2 g)).2
        rw [if_neg hc, if_neg (show ¬ (nxN B z 1).o.size ≤ 1 from (show (nxN A y 1).o = (nxN B z 1).o from e1) ▸ hc), if_pos hc2, if_pos (show (nxN B z 2).o.size ≤ 2 from (show (nxN A y 2).o = (nxN B z 2).o from e) ▸ hc2)]
        exact ⟨(h2.1.x.2 g).1, (h2.1.x.2 g).2, e⟩
      · rename_i hc2
        have e := (h3.1.eq g).2
        have e2 := (h2.1.eq (h3.2 g)).2
        have e1 := (h1.1.eq (h2.2 (h3.2 g))).2
        rw [if_neg hc, if_neg (show ¬ (nxN B z 1).o.size ≤ 1 from (show (nxN A y 1).o = (nxN B z 1).o from e1) ▸ hc), if_neg hc2, if_neg (show ¬ (nxN B z 2).o.size ≤ 2 from (show (nxN A y 2).o = (nxN B z 2).o from e2) ▸ hc2)]
        exact ⟨(h3.1.x.2 g).1, (h3.1.x.2 g).2, e⟩
  exact ⟨⟨hl, fun g => ⟨(key g).1, (key g).2.1⟩⟩, fun g => (key g).2.2, fun g => S.anti hl g⟩
theorem SQ.takeI (h : SQ S m y z) (p : Int) (hs : y.s = z.s) : SQ S m (takeI A p y) (takeI B p z) := by
  have h1 := (h.idles 2).push (w := y.s.r.pc) (w' := z.s.r.pc) fun _ => by rw [hs]
  have h2 := (h1.ack (n := low1 p) (n' := low1 p) fun _ => rfl).idles 1
  exact h2.set fun g => by
    have e := h2.s g
    show (⟨{ (Go.Proofs.Ytjjemehigdpboaa.idles A 1 _).s.r with pc := _ }, false, false, (Go.Proofs.Ytjjemehigdpboaa.idles A 1 _).s.halt, (Go.Proofs.Ytjjemehigdpboaa.idles A 1 _).s.stop⟩ : CS) = ⟨{ (Go.Proofs.Ytjjemehigdpboaa.idles B 1 _).s.r with pc := _ }, false, false, (Go.Proofs.Ytjjemehigdpboaa.idles B 1 _).s.halt, (Go.Proofs.Ytjjemehigdpboaa.idles B 1 _).s.stop⟩
    rw [e]
/-- A step is alike on both. -/
theorem step_sim {x : Rn α} {x' : Rn β} (hs : x.s = x'.s) (hR : S.R x.m x'.m) : SQ S x.m (stepT A x).2 (stepT B x').2 ∧ (S.good (stepT A x).2.m → (stepT A x).1 = (stepT B x').1) := by
  obtain ⟨s, m⟩ := x
  obtain ⟨s', o⟩ := x'
  dsimp only at hs hR
  subst hs
  have h0 : SQ S m ⟨s, m⟩ ⟨s, o⟩ := SQ.start (x := ⟨s, m⟩) (x' := ⟨s, o⟩) rfl hR
  by_cases c1 : s.stop = true
  · have eA : stepT A ⟨s, m⟩ = (⟨0, 0, s.r.pc, oN, false⟩, ⟨{ s with stop := A.pend (A.idle m) / 16 % 2 == 0 }, A.idle m⟩) := if_pos c1
    have eB : stepT B ⟨s, o⟩ = (⟨0, 0, s.r.pc, oN, false⟩, ⟨{ s with stop := B.pend (B.idle o) / 16 % 2 == 0 }, B.idle o⟩) := if_pos c1
    rw [eA, eB]
    have h1 := h0.idle
    exact ⟨h1.set fun g => by rw [show A.pend (A.idle m) = B.pend (B.idle o) from S.pend (h1.2 g).2 g], fun _ => rfl⟩
  · have lA : S.le m (stepT A ⟨s, m⟩).2.m := by
      unfold stepT
      dsimp only
      rw [if_neg c1]
      split
      · exact S.idle_le m
      · split
        · exact (SQ.takeI (SQ.start (x := ⟨{ s with halt := false }, m⟩) (x' := ⟨{ s with halt := false }, o⟩) rfl hR) (A.pend m) rfl).1
        · have hn := (SQ.start (S := S) (x := ⟨{ s with halt := false, soon := false }, m⟩) (x' := ⟨{ s with halt := false, soon := false }, o⟩) rfl hR).next
          have ho : S.le m (Go.Proofs.Ytjjemehigdpboaa.ordT A (nextT A ⟨{ s with halt := false, soon := false }, m⟩).1 s.r.pc (nextT A ⟨{ s with halt := false, soon := false }, m⟩).2).2.m := by
            have h9 : SQ S m (nextT A ⟨{ s with halt := false, soon := false }, m⟩).2 ⟨(nextT A ⟨{ s with halt := false, soon := false }, m⟩).2.s, (nextT B ⟨{ s with halt := false, soon := false }, o⟩).2.m⟩ := ⟨hn.1.1, fun g => ⟨rfl, (hn.1.2 g).2⟩⟩
            exact (h9.ordT _ _ rfl).2.1
          split
          · exact ho
          · exact ho
    have main : S.good (stepT A ⟨s, m⟩).2.m → (stepT A ⟨s, m⟩).2.s = (stepT B ⟨s, o⟩).2.s ∧ S.R (stepT A ⟨s, m⟩).2.m (stepT B ⟨s, o⟩).2.m ∧ (stepT A ⟨s, m⟩).1 = (stepT B ⟨s, o⟩).1 := fun g => by
      have gm := S.anti lA g
      have ep := S.pend hR gm
      unfold stepT at g ⊢
      dsimp only at g ⊢
      rw [if_neg c1] at g
      rw [if_neg c1, if_neg c1, ← ep]
      split at g
      · rename_i c2
        rw [if_pos c2, if_pos c2]
        have h1 := h0.idle
        exact ⟨rfl, (h1.2 g).2, rfl⟩
      · rename_i c2
        rw [if_neg c2, if_neg c2]
        split at g
        · rename_i c3
          rw [if_pos c3, if_pos c3]
          have h1 := SQ.takeI (SQ.start (S := S) (x := ⟨{ s with halt := false }, m⟩) (x' := ⟨{ s with halt := false }, o⟩) rfl hR) (A.pend m) rfl
          exact ⟨(h1.2 g).1, (h1.2 g).2, rfl⟩
        · rename_i c3
          rw [if_neg c3, if_neg c3]
          have hn := (SQ.start (S := S) (x := ⟨{ s with halt := false, soon := false }, m⟩) (x' := ⟨{ s with halt := false, soon := false }, o⟩) rfl hR).next
          have h9 : SQ S m (nextT A ⟨{ s with halt := false, soon := false }, m⟩).2 ⟨(nextT A ⟨{ s with halt := false, soon := false }, m⟩).2.s, (nextT B ⟨{ s with halt := false, soon := false }, o⟩).2.m⟩ := ⟨hn.1.1, fun g => ⟨rfl, (hn.1.2 g).2⟩⟩
          have h8 := h9.ordT (nextT A ⟨{ s with halt := false, soon := false }, m⟩).1 s.r.pc rfl
          have g2 : S.good (Go.Proofs.Ytjjemehigdpboaa.ordT A (nextT A ⟨{ s with halt := false, soon := false }, m⟩).1 s.r.pc (nextT A ⟨{ s with halt := false, soon := false }, m⟩).2).2.m := by
            split at g
            · exact g
            · exact g
          have lo : S.le (nextT A ⟨{ s with halt := false, soon := false }, m⟩).2.m (Go.Proofs.Ytjjemehigdpboaa.ordT A (nextT A ⟨{ s with halt := false, soon := false }, m⟩).1 s.r.pc (nextT A ⟨{ s with halt := false, soon := false }, m⟩).2).2.m :=
            (SQ.ordT (S := S) (m := (nextT A ⟨{ s with halt := false, soon := false }, m⟩).2.m) (y := (nextT A ⟨{ s with halt := false, soon := false }, m⟩).2) (z := ⟨(nextT A ⟨{ s with halt := false, soon := false }, m⟩).2.s, (nextT B ⟨{ s with halt := false, soon := false }, o⟩).2.m⟩) ⟨S.refl _, fun g => ⟨rfl, (hn.1.2 g).2⟩⟩ _ s.r.pc rfl).2.1
          have gn := S.anti lo g2
          have e1 := hn.2.1 gn
          have e2 := (hn.1.2 gn).1
          have eo : nextT B ⟨{ s with halt := false, soon := false }, o⟩ = ((nextT A ⟨{ s with halt := false, soon := false }, m⟩).1, ⟨(nextT A ⟨{ s with halt := false, soon := false }, m⟩).2.s, (nextT B ⟨{ s with halt := false, soon := false }, o⟩).2.m⟩) := by rw [e1, e2]
          rw [eo]
          dsimp only
          have k := h8.2.2 g2
          refine ⟨?_, ?_, by rw [h8.1]⟩
          · split
            · exact congrArg (fun s : CS => { s with ime := true }) k.1
            · exact k.1
          · split
            · exact k.2
            · exact k.2
    exact ⟨⟨lA, fun g => ⟨(main g).1, (main g).2.1⟩⟩, fun g => (main g).2.2⟩
end
end Go.Proofs.Ytjjemehigdpboaa
namespace Go.Proofs.Ytjjemehigdpboaa
open Go Go.VV

def rdB (e : Ac) : Prop := e.kind ≠ 0 ∧ e.kind ≠ 2
instance (e : Ac) : Decidable (rdB e) := by unfold rdB; infer_instance
/-- What was read is what there was at first. -/
def Wd (b : List Int) (x : Rn Rm) : Prop := ∀ e ∈ x.m.acc, rdB e → e.val = atB b e.addr
/-- .. and nothing was written yet. -/
def Rd (b : List Int) (x : Rn Rm) : Prop := x.m.b = b ∧ Wd b x
section
variable {b : List Int} {x : Rn Rm}
theorem Wd.note (h : Wd b x) {y : Rn Rm} {k a v : Int} (hy : y.m.acc = x.m.acc ++ [⟨k, a, v⟩]) (hv : k = 0 ∨ k = 2 ∨ v = atB b a) : Wd b y := fun e he hr => by
  rw [hy] at he
  rcases List.mem_append.1 he with he | he
  · exact h e he hr
  · rw [List.mem_singleton.1 he] at hr ⊢
    rcases hv with rfl | rfl | hv
    · exact absurd rfl hr.1
    · exact absurd rfl hr.2
    · exact hv
theorem Wd.same (h : Wd b x) {y : Rn Rm} (hy : y.m.acc = x.m.acc) : Wd b y := fun e he hr => h e (hy ▸ he) hr
theorem Rd.same (h : Rd b x) {y : Rn Rm} (hy : y.m = x.m) : Rd b y := ⟨by rw [hy]; exact h.1, h.2.same (by rw [hy])⟩
theorem Rd.read (h : Rd b x) (a : Int) (k : Int) {y : Rn Rm} (hy : y.m = noteR k a (atB x.m.b a) x.m) : Rd b y := ⟨by rw [hy]; exact h.1, h.2.note (by rw [hy]; rfl) (.inr (.inr (by rw [h.1])))⟩
theorem rd_gett (h : Rd b x) (n : Int) : Rd b (gett ramA n x).2 := by
  unfold gett; split
  · exact h.read _ 1 rfl
  · exact h
theorem wd_sett (h : Wd b x) (n v : Int) : Wd b (sett ramA n v x) := by
  unfold sett; split
  · exact h.note rfl (.inr (.inl rfl))
  · exact h.same rfl
theorem wd_push (h : Wd b x) (w : Int) : Wd b (push ramA w x) := by
  have h1 : Wd b (push1 ramA (w / 256) x) := h.note rfl (.inr (.inl rfl))
  exact h1.note (y := push1 ramA (w % 256) (push1 ramA (w / 256) x)) rfl (.inr (.inl rfl))
theorem rd_pop (h : Rd b x) : Rd b (pop ramA x).2 := by
  have h1 : Rd b (pop1 ramA x).2 := h.read _ 1 rfl
  exact h1.read (y := (pop1 ramA (pop1 ramA x).2).2) _ 1 rfl
theorem wd_idles (h : Wd b x) : ∀ n, Wd b (idles ramA n x)
  | 0 => h
  | n + 1 => (wd_idles h n).note rfl (.inl rfl)
theorem rd_idles (h : Rd b x) (n : Nat) : Rd b (idles ramA n x) := ⟨by
  have : ∀ n, (idles ramA n x).m.b = x.m.b := fun n => by induction n with
    | zero => rfl
    | succ n ih => exact ih
  rw [this]; exact h.1, wd_idles h.2 n⟩
theorem wd_change (h : Rd b x) (n : Int) (g : Int → Int → Int × Int) : Wd b (change ramA n g x) := (wd_sett (rd_gett h n).2 n _).same rfl
theorem Wd.ite {c : Prop} [Decidable c] {y z : Rn Rm} (h1 : Wd b y) (h2 : Wd b z) : Wd b (if c then y else z) := by split <;> assumption
theorem wd_effB (h : Rd b x) (o : Opr) : Wd b (effB ramA o x) := by
  have g := rd_gett h o.y
  have r : ∀ {r' : CR}, Wd b (x.reg r') := h.2.same rfl
  unfold effB
  refine .ite (wd_sett g.2 _ _) (.ite (wd_sett h.2 _ _) (.ite (g.2.same rfl) (.ite r (.ite (wd_change h _ _) (.ite (wd_change h _ _) (.ite (wd_change h _ _) (.ite r (.ite (g.2.same rfl) (.ite (wd_sett g.2 _ _) (.ite (wd_sett g.2 _ _) (.ite r (.ite r (.ite r (.ite r h.2))))))))))))))
theorem wd_effW (h : Rd b x) (o : Opr) : Wd b (effW ramA o x) := by
  have r : ∀ {r' : CR} n, Wd b (idles ramA n (x.reg r')) := fun {r'} n => wd_idles (x := x.reg r') (h.2.same rfl) n
  have w1 : Wd b (x.mem (ramA.write o.n (x.s.r.sp % 256) x.m)) := h.2.note rfl (.inr (.inl rfl))
  unfold effW
  exact .ite (h.2.same rfl) (.ite (r 1) (.ite (r 1) (.ite (r 1) (.ite (r 2) (.ite (r 1) (.ite (r 1) (.ite (wd_push (wd_idles h.2 1) _) (.ite ((rd_pop h).2.same rfl) (.ite (w1.note rfl (.inr (.inl rfl))) h.2)))))))))
theorem rd_place (h : Rd b x) (o : Opr) : Rd b (place o x).2 := by
  unfold place far; repeat' split
  all_goals first | exact h | exact h.same rfl
theorem wd_effP (h : Rd b x) (o : Opr) : Wd b (effP ramA o x) := by
  have hp := rd_place h o
  unfold effP
  dsimp only
  split
  · exact (hp.read (y := ⟨{ (place o x).2.s with r := { (place o x).2.s.r with a := (ramA.read (place o x).1 (place o x).2.m).1 } }, (ramA.read (place o x).1 (place o x).2.m).2⟩) _ 1 rfl).2
  · exact hp.2.note rfl (.inr (.inl rfl))
theorem wd_effJ (h : Rd b x) (o : Opr) : Wd b (effJ ramA o x) := by
  unfold effJ
  dsimp only
  have hx : Rd b (if o.kind = 26 ∧ o.x ≠ 4 then idles ramA 1 x else x) := by split; exact rd_idles h 1; exact h
  generalize (if o.kind = 26 ∧ o.x ≠ 4 then idles ramA 1 x else x) = y at hx ⊢
  have i1 := rd_idles hx 1
  have p1 := rd_pop hx
  have p2 : Rd b (pop ramA ⟨{ y.s with ime := true }, y.m⟩).2 := rd_pop (hx.same rfl)
  exact .ite hx.2 (.ite (i1.2.same rfl) (.ite (i1.2.same rfl) (.ite ((wd_push i1.2 _).same rfl) (.ite (wd_idles (x := goto _ _) (p2.2.same rfl) 1) (.ite (wd_idles (x := goto _ _) (p1.2.same rfl) 1) (.ite (hx.2.same rfl) hx.2))))))
theorem wd_ordT (h : Rd b x) (o : Opr) (p : Int) : Wd b (ordT ramA o p x).2 := by
  unfold ordT
  split
  · exact h.2.same rfl
  split
  · exact h.2.same rfl
  split
  · exact h.2.same rfl
  split
  · exact h.2.same rfl
  split
  · exact h.2.same rfl
  split
  · exact wd_effB h o
  split
  · exact wd_effW h o
  split
  · exact wd_effP h o
  · exact wd_effJ h o
theorem rd_nx (h : Rd b x) : ∀ n, Rd b (nxN ramA x n).x
  | 0 => h
  | n + 1 => (rd_nx h n).read (y := (nxN ramA x (n + 1)).x) _ 3 rfl
theorem rd_next (h : Rd b x) : Rd b (nextT ramA x).2 := by
  unfold nextT; repeat' split
  · exact rd_nx h 1
  · exact rd_nx h 2
  · exact rd_nx h 3
theorem wd_step (h : Rd b x) : Wd b (stepT ramA x).2 := by
  unfold stepT
  dsimp only
  split
  · exact h.2.note rfl (.inl rfl)
  · split
    · exact h.2.note rfl (.inl rfl)
    · split
      · have h1 : Rd b (⟨{ x.s with halt := false }, x.m⟩ : Rn Rm) := h.same rfl
        have h2 := wd_push (wd_idles h1.2 2) x.s.r.pc
        unfold takeI
        dsimp only
        exact (wd_idles (x := (push ramA x.s.r.pc (idles ramA 2 ⟨{ x.s with halt := false }, x.m⟩)).mem (ramA.ack (low1 (ramA.pend x.m)) (push ramA x.s.r.pc (idles ramA 2 ⟨{ x.s with halt := false }, x.m⟩)).m)) (h2.same rfl) 1).same rfl
      · have h1 : Rd b (⟨{ x.s with halt := false, soon := false }, x.m⟩ : Rn Rm) := h.same rfl
        have h2 := wd_ordT (rd_next h1) (nextT ramA ⟨{ x.s with halt := false, soon := false }, x.m⟩).1 x.s.r.pc
        split
        · exact h2.same rfl
        · exact h2
end
/-- What was read is laid. -/
def patch (c : List Int) (L : List Ac) : List Int := L.foldl (fun c e => if rdB e then c.set e.addr.toNat e.val else c) c
theorem patch_snoc (c : List Int) (L : List Ac) (e : Ac) : patch c (L ++ [e]) = if rdB e then (patch c L).set e.addr.toNat e.val else patch c L := by simp [patch]
theorem patch_len (c : List Int) (L : List Ac) : (patch c L).length = c.length := by
  induction L generalizing c with
  | nil => rfl
  | cons e L ih => show (patch (if rdB e then c.set e.addr.toNat e.val else c) L).length = _; rw [ih]; split <;> simp
theorem patch_byts {L : List Ac} : ∀ {c : List Int}, Byts c → (∀ e ∈ L, 0 ≤ e.val ∧ e.val < 256) → Byts (patch c L) := by
  induction L with
  | nil => exact fun h _ => h
  | cons e L ih =>
    intro c h hv
    refine ih (c := if rdB e then c.set e.addr.toNat e.val else c) ?_ (fun e' he' => hv e' (.tail _ he'))
    split
    · exact byts_set h _ (hv e (.head _))
    · exact h
theorem patch_at {f : List Int} {a : Int} (ha : 0 ≤ a) : ∀ (L : List Ac) (c : List Int), c.length = 65536 → (∀ e ∈ L, rdB e → e.val = atB f e.addr) → (∀ e ∈ L, (0 ≤ e.addr ∧ e.addr < 65536)) →
    (atB c a = atB f a ∨ ∃ e ∈ L, rdB e ∧ e.addr = a) → atB (patch c L) a = atB f a
  | [], c, _, _, _, h => by
    rcases h with h | ⟨e, he, _⟩
    · exact h
    · cases he
  | e :: L, c, hc, hv, hr, h => by
    show atB (patch (if rdB e then c.set e.addr.toNat e.val else c) L) a = _
    have hr0 := hr e (.head _)
    refine patch_at ha L _ (by split <;> simp [hc]) (fun e' he' => hv e' (.tail _ he')) (fun e' he' => hr e' (.tail _ he')) ?_
    by_cases hre : rdB e
    · rw [if_pos hre]
      by_cases hea : e.addr = a
      · left; rw [at_same (by omega) (by omega), hv e (.head _) hre, hea]
      · rw [at_other (by omega)]
        rcases h with h | ⟨e', he', h1, h2⟩
        · exact .inl h
        · rcases List.mem_cons.1 he' with rfl | he'
          · exact absurd h2 hea
          · exact .inr ⟨e', he', h1, h2⟩
    · rw [if_neg hre]
      rcases h with h | ⟨e', he', h1, h2⟩
      · exact .inl h
      · rcases List.mem_cons.1 he' with rfl | he'
        · exact absurd h1 hre
        · exact .inr ⟨e', he', h1, h2⟩
/-- The places that are looked at. -/
def touched (L : List Ac) (a : Int) : Prop := a = 65295 ∨ a = 65535 ∨ ∃ e ∈ L, rdB e ∧ e.addr = a
def nilSim (L : List Ac) : Sim ramA ramA where
  le m m' := ∀ e ∈ m.acc, e ∈ m'.acc
  good m := ∀ e ∈ m.acc, e ∈ L
  R m o := m.acc = o.acc ∧ m.b.length = o.b.length ∧ ∀ a, touched L a → atB m.b a = atB o.b a
  refl _ _ h := h
  trans h h' e he := h' e (h e he)
  anti h g e he := g e (h e he)
  fetch_le _ _ _ he := List.mem_append_left _ he
  read_le _ _ _ he := List.mem_append_left _ he
  write_le _ _ _ _ he := List.mem_append_left _ he
  idle_le _ _ he := List.mem_append_left _ he
  ack_le _ _ _ he := he
  fetch := fun {a m o} h g => by
    have ht : atB m.b a = atB o.b a := h.2.2 a (.inr (.inr ⟨_, g _ (List.mem_append_right _ (.head _)), ⟨by show (3 : Int) ≠ 0; decide, by show (3 : Int) ≠ 2; decide⟩, rfl⟩))
    exact ⟨ht, by show m.acc ++ [⟨3, a, atB m.b a⟩] = o.acc ++ [⟨3, a, atB o.b a⟩]; rw [h.1, ht], h.2⟩
  read := fun {a m o} h g => by
    have ht : atB m.b a = atB o.b a := h.2.2 a (.inr (.inr ⟨_, g _ (List.mem_append_right _ (.head _)), ⟨by show (1 : Int) ≠ 0; decide, by show (1 : Int) ≠ 2; decide⟩, rfl⟩))
    exact ⟨ht, by show m.acc ++ [⟨1, a, atB m.b a⟩] = o.acc ++ [⟨1, a, atB o.b a⟩]; rw [h.1, ht], h.2⟩
  write := fun {a x m o} h _ => by
    refine ⟨by show m.acc ++ [⟨2, a, x⟩] = o.acc ++ [⟨2, a, x⟩]; rw [h.1], by show (m.b.set a.toNat x).length = (o.b.set a.toNat x).length; simp [h.2.1], fun c hc => ?_⟩
    show atB (m.b.set a.toNat x) c = atB (o.b.set a.toNat x) c
    by_cases he : c.toNat = a.toNat
    · by_cases hl : a.toNat < m.b.length
      · rw [at_same hl he, at_same (h.2.1 ▸ hl) he]
      · rw [List.set_eq_of_length_le (by omega), List.set_eq_of_length_le (by rw [← h.2.1]; omega)]; exact h.2.2 c hc
    · rw [at_other he, at_other he]; exact h.2.2 c hc
  idle := fun {m o} h _ => ⟨by show m.acc ++ [⟨0, 0, 0⟩] = o.acc ++ [⟨0, 0, 0⟩]; rw [h.1], h.2⟩
  pend := fun {m o} h _ => by show band .u8 (band .u8 (atB m.b 65295) (atB m.b 65535)) 31 = band .u8 (band .u8 (atB o.b 65295) (atB o.b 65535)) 31; rw [h.2.2 65295 (.inl rfl), h.2.2 65535 (.inr (.inl rfl))]
  ack := fun {n m o} h _ => by
    refine ⟨h.1, by show (m.b.set 65295 _).length = (o.b.set 65295 _).length; simp [h.2.1], fun c hc => ?_⟩
    show atB (m.b.set 65295 (resB (atB m.b 65295) n)) c = atB (o.b.set 65295 (resB (atB o.b 65295) n)) c
    rw [h.2.2 65295 (.inl rfl)]
    by_cases he : c.toNat = 65295
    · by_cases hl : 65295 < m.b.length
      · rw [at_same hl he, at_same (h.2.1 ▸ hl) he]
      · rw [List.set_eq_of_length_le (by omega), List.set_eq_of_length_le (by rw [← h.2.1]; omega)]; exact h.2.2 c hc
    · rw [at_other he, at_other he]; exact h.2.2 c hc
/-- Other bytes, but for those that were read: the step is the same. -/
theorem nil_law {s : CS} {b c : List Int} (hb : b.length = 65536) (hc : c.length = 65536) {d : Dd} {y : Rn Rm} (e : stepT ramA ⟨s, ⟨b, []⟩⟩ = (d, y)) (hr : ∀ e ∈ y.m.acc, (0 ≤ e.addr ∧ e.addr < 65536)) :
    ∃ ob, stepT ramA ⟨s, ⟨((patch c y.m.acc).set 65295 (atB b 65295)).set 65535 (atB b 65535), []⟩⟩ = (d, ⟨y.s, ⟨ob, y.m.acc⟩⟩) := by
  have hw := wd_step (b := b) (x := ⟨s, ⟨b, []⟩⟩) ⟨rfl, fun _ h => by cases h⟩
  rw [e] at hw
  have hl := patch_len c y.m.acc
  have hR : (nilSim y.m.acc).R ⟨b, []⟩ ⟨((patch c y.m.acc).set 65295 (atB b 65295)).set 65535 (atB b 65535), []⟩ := by
    refine ⟨rfl, by simp [hl, hb, hc], fun a ha => ?_⟩
    dsimp only
    by_cases h1 : a.toNat = 65535
    · rw [at_same (by simp [hl, hc]) h1]
      unfold atB; rw [h1]; rfl
    · rw [at_other h1]
      by_cases h2 : a.toNat = 65295
      · rw [at_same (by simp [hl, hc]) h2]
        unfold atB; rw [h2]; rfl
      · rw [at_other h2]
        rcases ha with rfl | rfl | ⟨e', he', h3, h4⟩
        · exact absurd rfl h2
        · exact absurd rfl h1
        · exact (patch_at (h4 ▸ (hr e' he').1) _ _ hc hw hr (.inr ⟨e', he', h3, h4⟩)).symm
  have hs := step_sim (S := nilSim y.m.acc) (x := ⟨s, ⟨b, []⟩⟩) (x' := ⟨s, ⟨((patch c y.m.acc).set 65295 (atB b 65295)).set 65535 (atB b 65535), []⟩⟩) rfl hR
  rw [e] at hs
  have g : (nilSim y.m.acc).good y.m := fun _ h => h
  have h1 := hs.1.2 g
  have h2 := hs.2 g
  generalize stepT ramA ⟨s, ⟨((patch c y.m.acc).set 65295 (atB b 65295)).set 65535 (atB b 65535), []⟩⟩ = q at h1 h2
  obtain ⟨d', s', b', acc'⟩ := q
  obtain ⟨h1, h3, _⟩ := h1
  dsimp only at h1 h2 h3
  exact ⟨b', by rw [h1, h2, h3]⟩
end Go.Proofs.Ytjjemehigdpboaa
