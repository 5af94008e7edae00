/- Parts. -/
import Derived.Test.YthigpmaadmneaaaGreatDoorQsD
set_option maxRecDepth 100000
set_option maxHeartbeats 1000000
set_option linter.all false
namespace Go.Proofs.YthigpmaadmneaaaGreatDoor
open Go Go.VV Go.Proofs Go.RowKit
section
variable {β : Type} {K : aQ8 β} {x : Rn β} {n : Nat}
def Yi (h : RunOk K (n + 2) x) (k : Int) {g : Int → Int → Int × Int} (hg : ∀ a f, 0 ≤ a ∧ a < 256 → 0 ≤ f ∧ f < 256 → (0 ≤ (g a f).1 ∧ (g a f).1 < 256) ∧ (0 ≤ (g a f).2 ∧ (g a f).2 < 256)) : RunOk K n (change K.toaQ7 k g x) := by
 have h1 := h.gett k
 have h2 := hg _ _ h1.2 h1.1.r.f
 have h3 := RunOk.sett h1.1 k h2.1
 exact h3.reg (h3.r.f_ h2.2)
def rL {c : Prop} [Decidable c] {a b : Rn β} (h1 : RunOk K n a) (h2 : RunOk K n b) : RunOk K n (if c then a else b) := by split <;> assumption
def aGb (h : RunOk K (n + 2) x) {o : cJ} (ho : rK o) : RunOk K n (gT K.toaQ7 o x) := by
 have h0 := h.le (k := n) I
 have h1 := h.le (k := n + 1) I
 have gy := h1.gett o.y
 have gy2 := h.gett o.y
 have hn : 0 ≤ o.n % 256 ∧ o.n % 256 < 256 := by omega
 have hb := Ru gy.2 ho.x
 have fb := fun z n h c => vT z n h c
 unfold gT
 refine rL (RunOk.sett gy2.1 _ gy.2) ?_
 refine rL (h1.sett _ hn) ?_
 refine rL (gy.1.reg (aA7 gy.1.r _)) ?_
 refine rL (h0.reg (aA7 h.r _)) ?_
 refine rL (Yi h _ fun a f _ _ => ⟨Q8, fb _ _ _ _⟩) ?_
 refine rL (Yi h _ fun a f _ _ => ⟨O0, fb _ _ _ _⟩) ?_
 refine rL (Yi h _ fun a f ha _ => ⟨L5 ha, fb _ _ _ _⟩) ?_
 refine rL (h0.reg ((h.r.a_ (L5 h.r.a)).f_ (fb _ _ _ _))) ?_
 refine rL (gy.1.reg (gy.1.r.f_ (fb _ _ _ _))) ?_
 refine rL (RunOk.sett gy2.1 _ hb.1) ?_
 refine rL (RunOk.sett gy2.1 _ hb.2) ?_
 refine rL (h0.reg ((h.r.a_ aN8).f_ (fb _ _ _ _))) ?_
 refine rL (h0.reg ((h.r.a_ (w := 255 - x.s.r.a) (by have := h.r.a; omega)).f_ (fb _ _ _ _))) ?_
 refine rL (h0.reg (h.r.f_ (fb _ _ _ _))) ?_
 refine rL (h0.reg (h.r.f_ (fb _ _ _ _))) ?_
 exact h0
def aI7 (h : RunOk K (n + 3) x) {o : cJ} (ho : rK o) : RunOk K n (jR K.toaQ7 o x) := by
 have h0 := h.le (k := n) I
 have h1 := h.le (k := n + 1) I
 have h2 := h.le (k := n + 2) I
 have fb := fun z n h c => vT z n h c
 have hs := h.r.sp
 unfold jR
 repeat' split
 ·exact h0.reg (h.r.setP _ ho.n)
 ·exact RunOk.idleK 1 (h1.reg (h.r.setP _ xW))
 ·exact RunOk.idleK 1 (h1.reg (h.r.setP _ Ab))
 ·exact RunOk.idleK 1 (h1.reg ((h.r.f_ (fb _ _ _ _)).setP _ K4))
 ·exact RunOk.idleK 2 (h2.reg ((h.r.sp_ Lc).f_ (fb _ _ _ _)))
 ·exact RunOk.idleK 1 (h1.reg ((h.r.f_ (fb _ _ _ _)).setP _ Lc))
 ·exact RunOk.idleK 1 (h1.reg (h.r.sp_ (tH h.r _)))
 ·exact RunOk.push (h.idleK 1) (tH (h.idleK 1).r _)
 ·exact h2.pop.1.reg (h2.pop.1.r.setP _ h2.pop.2)
 ·exact h0.mem (K.oW (K.oW h2.m ho.n I) xW I)
 ·exact h0
def aNR (h : RunOk K n x) {o : cJ} (ho : rK o) : RunOk K n (place o x).2 ∧ 0 ≤ (place o x).1 ∧ (place o x).1 < 65536 := by
 have hc := h.r.c
 unfold place
 repeat' split
 ·exact h.far _
 ·exact ⟨h, fU, fU⟩
 ·exact ⟨h, fU, fU⟩
 ·exact ⟨h, ho.n⟩
def aK5 (h : RunOk K (n + 1) x) {o : cJ} (ho : rK o) : RunOk K n (lU K.toaQ7 o x) := by
 have hp := aNR h ho
 unfold lU
 dsimp only
 split
 ·have := K.oR hp.1.m hp.2
  exact ⟨hp.1.r.a_ this.2, this.1⟩
 ·exact hp.1.mem (K.oW hp.1.m hp.2 hp.1.r.a)
def aMb (h : RunOk K (n + 4) x) {o : cJ} (ho : rK o) : RunOk K n (effJ K.toaQ7 o x) := by
 have hx : RunOk K (n + 3) (if o.kind = 26 ∧ o.x ≠ 4 then idles K.toaQ7 1 x else x) := by
  split
  ·exact h.idleK 1
  ·exact h.le I
 unfold effJ
 dsimp only
 generalize (if o.kind = 26 ∧ o.x ≠ 4 then idles K.toaQ7 1 x else x) = y at hx ⊢
 have h1 := hx.idleK 1
 have hg : ∀ {k : Nat} {z : Rn β} {w : Int}, RunOk K k z → 0 ≤ w ∧ w < 65536 → RunOk K k (goto w z) := fun hz hw => hz.reg (hz.r.pc_ hw)
 repeat' split
 ·exact hx.le I
 ·exact hg (h1.le I) I
 ·exact hg (h1.le I) ho.n
 ·exact hg (RunOk.push h1 hx.r.pc) ho.n
 ·have hq : RunOk K (n + 1 + 2) ⟨{ y.s with ime := true }, y.m⟩ := ⟨hx.r, hx.m⟩
  exact RunOk.idleK 1 (hg hq.pop.1 hq.pop.2)
 ·have hq : RunOk K (n + 1 + 2) y := hx
  exact RunOk.idleK 1 (hg hq.pop.1 hq.pop.2)
 ·exact hg (hx.le I) (tH hx.r 2)
 ·exact hx.le I
def aPT (h : RunOk K (n + 4) x) {o : cJ} (ho : rK o) {p : Int} (hp : 0 ≤ p ∧ p < 65536) : RunOk K n (ordT K.toaQ7 o p x).2 := by
 have h0 := h.le (k := n) I
 unfold ordT
 repeat' split
 ·exact ⟨h.r, h0.m⟩
 ·exact ⟨h.r, h0.m⟩
 ·exact h0.reg (h.r.pc_ hp)
 ·exact ⟨h.r, h0.m⟩
 ·exact ⟨h.r, h0.m⟩
 ·exact aGb (h.le I) ho
 ·exact aI7 (h.le I) ho
 ·exact aK5 (h.le I) ho
 ·exact aMb h ho
def aNh (h : RunOk K (n + 5) x) (p : Int) : RunOk K n (zR K.toaQ7 p x) := by
 have h1 := RunOk.push (n := n + 1) (h.idleK 2) h.r.pc
 have hl := aEJ p
 have h2 := RunOk.idleK (n := n) 1 (h1.mem (K.oA h1.m hl))
 exact ⟨h2.r.pc_ I, h2.m⟩
def aD0 (h : RunOk K (n + 7) x) : RunOk K n (fK K.toaQ7 x).2 := by
 have h0 := h.le (k := n) I
 have h1 := h.le (k := n + 1) I
 unfold fK
 dsimp only
 repeat' split
 ·exact ⟨h.r, K.oI h1.m⟩
 ·exact h0.mem (K.oI h1.m)
 ·exact aNh (n := n) (x := ⟨{ x.s with halt := false }, x.m⟩) ⟨h.r, K.oL h.m I⟩ _
 all_goals
  have hq := aED (n := n + 4) (K := K) (x := ⟨{ x.s with halt := false, soon := false }, x.m⟩) ⟨h.r, h.m⟩
  have ho := aPT hq.1 hq.2 h.r.pc
  first | exact ho | exact ⟨ho.r, ho.m⟩
end
structure Ac where
 kind : Int
 addr : Int
 val : Int
deriving DecidableEq
def cAc (a : Ac) : AA := [.int .i64 a.kind, .int .u16 a.addr, .int .u8 a.val]
structure Hd where
 title : List UInt8
 kind : Int
 clock : Bool
 battery : Bool
 banks : Int
 ram : Int
 whole : Bool
deriving DecidableEq
def cHd (h : Hd) : AA := [.string (bs h.title), .int .i64 h.kind, .bool h.clock, .bool h.battery, .int .i64 h.banks, .int .i64 h.ram, .bool h.whole]
structure Mm where
 cpu : CS
 bk : Bk
 ck : Ck
 tm : Tm
 pd : Pd
 pt : Pt
 cp : Cp
 bd : Bd
 flags : Int
 lets : Int
 steps : Int
 cycles : Int
 hd : Hd
 u : PU
 rom : AB
 ram : AB
 work : AB
 high : AB
 acc : List Ac
def pictured (a : Int) : Bool := decide ((32768 ≤ a ∧ a < 40960) ∨ (65024 ≤ a ∧ a < 65184) ∨ (65344 ≤ a ∧ a < 65356 ∧ a ≠ 65350))
def askM (k : Int) (is : Bool) (m : Mm) : Mm := if is = true then { m with flags := bL .u8 m.flags k } else m
def xE (a : Int) (m : Mm) : Int := match clockB m.bk with
 | some p => Ce p m.ck
 | none => match atB_ a m.bk with
  | none => 255
  | some n => if m.hd.kind = 2 then bL .u8 (m.ram.getD n.toNat 0) 240 else m.ram.getD n.toNat 0
def deviceM (a : Int) (m : Mm) : Int :=
 if a = 65280 then Sh m.pd else if a < 65283 then readPt (a - 65281) m.pt else if 65284 ≤ a ∧ a < 65288 then readTm (a - 65284) m.tm
 else if a = 65295 then bL .u8 m.flags 224 else if 65296 ≤ a ∧ a < 65344 then readB (a - 65296) m.bd else if a = 65350 then m.cp.page
 else if a = 65535 then m.lets else if 65408 ≤ a then m.high.getD (a - 65408).toNat 0 else 255
def qW (a : Int) (m : Mm) : Int :=
 if a < 32768 then m.rom.getD (Dg a m.bk).toNat 0 else if pictured a = true then qX m.u a else if a < 49152 then xE a m
 else if a < 65024 then m.work.getD (a % 8192).toNat 0 else if a < 65280 then 255 else deviceM a m
def nH (a x : Int) (m : Mm) : Mm := match clockB m.bk with
 | some p => { m with ck := writeCk p x m.ck }
 | none => match atB_ a m.bk with
  | none => m
  | some n => { m with ram := m.ram.set n.toNat x }
def setDeviceM (a x : Int) (m : Mm) : Mm :=
 if a = 65280 then askM 16 (xB m.pd (qN x m.pd)) { m with pd := qN x m.pd } else if a < 65283 then { m with pt := writePt (a - 65281) x m.pt }
 else if 65284 ≤ a ∧ a < 65288 then { m with tm := writeTm (a - 65284) x m.tm } else if a = 65295 then { m with flags := aQ .u8 x 31 }
 else if 65296 ≤ a ∧ a < 65344 then { m with bd := writeBd (a - 65296) x m.bd } else if a = 65350 then { m with cp := Fa x }
 else if a = 65535 then { m with lets := x } else if 65408 ≤ a then { m with high := m.high.set (a - 65408).toNat x } else m
def wM (is : Bool) (m : Mm) : Mm := if is = true then { m with ck := Ch m.ck } else m
def pokeM (a x : Int) (m : Mm) : Mm :=
 if a < 32768 then wM (latchB a x m.bk) { m with bk := writeB a x m.bk } else if pictured a = true then askM 2 (aQ .u8 (qO m.u a x) 2 != 0) { m with u := kZ m.u a x }
 else if a < 49152 then nH a x m else if a < 65024 then { m with work := m.work.set (a % 8192).toNat x } else if a < 65280 then m else setDeviceM a x m
def cyc1 (m : Mm) : Mm := askM 4 m.tm.over { m with cycles := (m.cycles + 1) % 18446744073709551616, tm := vO m.tm }
def cyc2 (m : Mm) : Mm := askM 8 (uF m.pt) { m with pt := tickPt m.pt }
def cyc3 (m : Mm) : Mm := if 0 < m.cp.left then { m with cp := tickCp m.cp, u := vF m.u (De m.cp) (qW (wR m.cp) { m with cp := tickCp m.cp }) } else m
def cyc4 (m : Mm) : Mm := { m with bd := tickB m.bd }
def cyc5 (m : Mm) : Mm := askM 2 (aQ .u8 (tickV m.u) 2 != 0) (askM 1 (aQ .u8 (tickV m.u) 1 != 0) { m with u := tickU m.u })
def qY (m : Mm) : Mm := if m.hd.clock = true then { m with ck := tickCk m.ck } else m
def cycleM (m : Mm) : Mm := qY (cyc5 (cyc4 (cyc3 (cyc2 (cyc1 m)))))
def vZ (k a x : Int) (m : Mm) : Mm := { m with acc := m.acc ++ [⟨k, a, x⟩] }
def seenM (a : Int) (m : Mm) : Int := if letsCp m.cp a = false then 255 else if pictured a = true then vS m.u a else qW a m
def fE : aQ7 Mm where
 fetch a m := (seenM a (cycleM m), vZ 3 a (seenM a (cycleM m)) (cycleM m))
 read a m := (seenM a (cycleM m), vZ 1 a (seenM a (cycleM m)) (cycleM m))
 write a x m := vZ 2 a x (if letsCp (cycleM m).cp a = true then pokeM a x (cycleM m) else cycleM m)
 idle m := vZ 0 0 0 (cycleM m)
 pend m := aQ .u8 (aQ .u8 m.flags m.lets) 31
 ack n m := { m with flags := tF m.flags n }
def sI (x : Int) (m : Mm) : Mm := askM 16 (xB m.pd (rH x m.pd)) { m with pd := rH x m.pd }
def fD (plan : List gH) (m : Mm) : Mm := { sI (jX plan m.steps) m with acc := [] }
def eT (plan : List gH) (m : Mm) : Dd × Mm :=
 let q := fK fE (⟨m.cpu, fD plan m⟩ : Rn Mm)
 (q.1, { q.2.m with cpu := q.2.s, steps := (q.2.m.steps + 1) % 18446744073709551616 })
structure Mm.Wf (m : Mm) : Prop where
 bk : m.bk.Ok
 ck : m.ck.Ok
 tm : m.tm.Ok
 pd : m.pd.Ok
 pt : m.pt.Ok
 cp : m.cp.Ok
 bd : m.bd.Wf
 flags : 0 ≤ m.flags ∧ m.flags < 256
 lets : 0 ≤ m.lets ∧ m.lets < 256
 steps : 0 ≤ m.steps ∧ m.steps < 18446744073709551616
 cycles : 0 ≤ m.cycles ∧ m.cycles < 18446744073709551616
 u : m.u.Ok
 banks : 0 < m.bk.banks
 lRom : (m.rom.length : Int) = 16384 * m.bk.banks
 bRom : bE m.rom
 lRam : (m.ram.length : Int) = m.bk.ram
 bRam : bE m.ram
 lWork : m.work.length = 8192
 bWork : bE m.work
 lHigh : m.high.length = 127
 bHigh : bE m.high
structure iQ (n : Nat) (m : Mm) : Prop where
 wf : m.Wf
 room : m.acc.length + n ≤ 1000000
 accs : ∀ e ∈ m.acc, (0 ≤ e.addr ∧ e.addr < 65536) ∧ 0 ≤ e.val ∧ e.val < 256
section
variable {m : Mm}
def Mm.Wf.flags_ (h : m.Wf) {x : Int} (hx : 0 ≤ x ∧ x < 256) : ({ m with flags := x } : Mm).Wf := ⟨h.bk, h.ck, h.tm, h.pd, h.pt, h.cp, h.bd, hx, h.lets, h.steps, h.cycles, h.u, h.banks, h.lRom, h.bRom, h.lRam, h.bRam, h.lWork, h.bWork, h.lHigh, h.bHigh⟩
def Mm.Wf.lets_ (h : m.Wf) {x : Int} (hx : 0 ≤ x ∧ x < 256) : ({ m with lets := x } : Mm).Wf := ⟨h.bk, h.ck, h.tm, h.pd, h.pt, h.cp, h.bd, h.flags, hx, h.steps, h.cycles, h.u, h.banks, h.lRom, h.bRom, h.lRam, h.bRam, h.lWork, h.bWork, h.lHigh, h.bHigh⟩
def Mm.Wf.tm_ (h : m.Wf) {x : Tm} (hx : x.Ok) : ({ m with tm := x } : Mm).Wf := ⟨h.bk, h.ck, hx, h.pd, h.pt, h.cp, h.bd, h.flags, h.lets, h.steps, h.cycles, h.u, h.banks, h.lRom, h.bRom, h.lRam, h.bRam, h.lWork, h.bWork, h.lHigh, h.bHigh⟩
def Mm.Wf.ck_ (h : m.Wf) {x : Ck} (hx : x.Ok) : ({ m with ck := x } : Mm).Wf := ⟨h.bk, hx, h.tm, h.pd, h.pt, h.cp, h.bd, h.flags, h.lets, h.steps, h.cycles, h.u, h.banks, h.lRom, h.bRom, h.lRam, h.bRam, h.lWork, h.bWork, h.lHigh, h.bHigh⟩
def Mm.Wf.pd_ (h : m.Wf) {x : Pd} (hx : x.Ok) : ({ m with pd := x } : Mm).Wf := ⟨h.bk, h.ck, h.tm, hx, h.pt, h.cp, h.bd, h.flags, h.lets, h.steps, h.cycles, h.u, h.banks, h.lRom, h.bRom, h.lRam, h.bRam, h.lWork, h.bWork, h.lHigh, h.bHigh⟩
def Mm.Wf.pt_ (h : m.Wf) {x : Pt} (hx : x.Ok) : ({ m with pt := x } : Mm).Wf := ⟨h.bk, h.ck, h.tm, h.pd, hx, h.cp, h.bd, h.flags, h.lets, h.steps, h.cycles, h.u, h.banks, h.lRom, h.bRom, h.lRam, h.bRam, h.lWork, h.bWork, h.lHigh, h.bHigh⟩
def Mm.Wf.cp_ (h : m.Wf) {x : Cp} (hx : x.Ok) : ({ m with cp := x } : Mm).Wf := ⟨h.bk, h.ck, h.tm, h.pd, h.pt, hx, h.bd, h.flags, h.lets, h.steps, h.cycles, h.u, h.banks, h.lRom, h.bRom, h.lRam, h.bRam, h.lWork, h.bWork, h.lHigh, h.bHigh⟩
def Mm.Wf.bd_ (h : m.Wf) {x : Bd} (hx : x.Wf) : ({ m with bd := x } : Mm).Wf := ⟨h.bk, h.ck, h.tm, h.pd, h.pt, h.cp, hx, h.flags, h.lets, h.steps, h.cycles, h.u, h.banks, h.lRom, h.bRom, h.lRam, h.bRam, h.lWork, h.bWork, h.lHigh, h.bHigh⟩
def Mm.Wf.u_ (h : m.Wf) {x : PU} (hx : x.Ok) : ({ m with u := x } : Mm).Wf := ⟨h.bk, h.ck, h.tm, h.pd, h.pt, h.cp, h.bd, h.flags, h.lets, h.steps, h.cycles, hx, h.banks, h.lRom, h.bRom, h.lRam, h.bRam, h.lWork, h.bWork, h.lHigh, h.bHigh⟩
def Mm.Wf.cycles_ (h : m.Wf) {x : Int} (hx : 0 ≤ x ∧ x < 18446744073709551616) : ({ m with cycles := x } : Mm).Wf := ⟨h.bk, h.ck, h.tm, h.pd, h.pt, h.cp, h.bd, h.flags, h.lets, h.steps, hx, h.u, h.banks, h.lRom, h.bRom, h.lRam, h.bRam, h.lWork, h.bWork, h.lHigh, h.bHigh⟩
def Mm.Wf.steps_ (h : m.Wf) {x : Int} (hx : 0 ≤ x ∧ x < 18446744073709551616) (s : CS) : ({ m with cpu := s, steps := x } : Mm).Wf := ⟨h.bk, h.ck, h.tm, h.pd, h.pt, h.cp, h.bd, h.flags, h.lets, hx, h.cycles, h.u, h.banks, h.lRom, h.bRom, h.lRam, h.bRam, h.lWork, h.bWork, h.lHigh, h.bHigh⟩
def Mm.Wf.acc_ (h : m.Wf) (x : List Ac) : ({ m with acc := x } : Mm).Wf := ⟨h.bk, h.ck, h.tm, h.pd, h.pt, h.cp, h.bd, h.flags, h.lets, h.steps, h.cycles, h.u, h.banks, h.lRom, h.bRom, h.lRam, h.bRam, h.lWork, h.bWork, h.lHigh, h.bHigh⟩
def Mm.Wf.ram_ (h : m.Wf) (n : Nat) {x : Int} (hx : 0 ≤ x ∧ x < 256) : ({ m with ram := m.ram.set n x } : Mm).Wf := ⟨h.bk, h.ck, h.tm, h.pd, h.pt, h.cp, h.bd, h.flags, h.lets, h.steps, h.cycles, h.u, h.banks, h.lRom, h.bRom, by show ((m.ram.set n x).length : Int) = _; rw [cy]; exact h.lRam, yO h.bRam n hx, h.lWork, h.bWork, h.lHigh, h.bHigh⟩
def Mm.Wf.work_ (h : m.Wf) (n : Nat) {x : Int} (hx : 0 ≤ x ∧ x < 256) : ({ m with work := m.work.set n x } : Mm).Wf := ⟨h.bk, h.ck, h.tm, h.pd, h.pt, h.cp, h.bd, h.flags, h.lets, h.steps, h.cycles, h.u, h.banks, h.lRom, h.bRom, h.lRam, h.bRam, by show (m.work.set n x).length = _; rw [cy]; exact h.lWork, yO h.bWork n hx, h.lHigh, h.bHigh⟩
def Mm.Wf.high_ (h : m.Wf) (n : Nat) {x : Int} (hx : 0 ≤ x ∧ x < 256) : ({ m with high := m.high.set n x } : Mm).Wf := ⟨h.bk, h.ck, h.tm, h.pd, h.pt, h.cp, h.bd, h.flags, h.lets, h.steps, h.cycles, h.u, h.banks, h.lRom, h.bRom, h.lRam, h.bRam, h.lWork, h.bWork, by show (m.high.set n x).length = _; rw [cy]; exact h.lHigh, yO h.bHigh n hx⟩
def Mm.Wf.bk_ (h : m.Wf) (a : Int) {x : Int} (hx : 0 ≤ x ∧ x < 256) : ({ m with bk := writeB a x m.bk } : Mm).Wf := by
 obtain ⟨h1, h2, h3⟩ := X0 a x m.bk
 exact ⟨h.bk.write a hx, h.ck, h.tm, h.pd, h.pt, h.cp, h.bd, h.flags, h.lets, h.steps, h.cycles, h.u, by show 0 < (writeB a x m.bk).banks; rw [h2]; exact h.banks, by show _ = 16384 * (writeB a x m.bk).banks; rw [h2]; exact h.lRom, h.bRom, by show _ = (writeB a x m.bk).ram; rw [h3]; exact h.lRam, h.bRam, h.lWork, h.bWork, h.lHigh, h.bHigh⟩
def Mm.Wf.ask (h : m.Wf) (k : Int) (is : Bool) : (askM k is m).Wf := by unfold askM; split; exact h.flags_ (Be _ _); exact h
def Mm.Wf.latch (h : m.Wf) (is : Bool) : (wM is m).Wf := by unfold wM; split; exact h.ck_ h.ck.hold; exact h
def Mm.Wf.save (h : m.Wf) (a : Int) {x : Int} (hx : 0 ≤ x ∧ x < 256) : (nH a x m).Wf := by
 unfold nH
 split
 ·exact h.ck_ (h.ck.write _ hx)
 split
 ·exact h
 ·exact h.ram_ _ hx
def Mm.Wf.setDevice (h : m.Wf) (a : Int) {x : Int} (hx : 0 ≤ x ∧ x < 256) : (setDeviceM a x m).Wf := by
 unfold setDeviceM
 split
 ·exact (h.pd_ (h.pd.sel_ x)).ask _ _
 split
 ·exact h.pt_ (h.pt.write _ hx)
 split
 ·exact h.tm_ (h.tm.write _ hx)
 split
 ·exact h.flags_ (N3 _ _)
 split
 ·exact h.bd_ (h.bd.write _ hx)
 split
 ·exact h.cp_ ⟨hx, show (0 : Int) ≤ 160 ∧ (160 : Int) < 65536 by decide⟩
 split
 ·exact h.lets_ hx
 split
 ·exact h.high_ _ hx
 ·exact h
def Mm.Wf.poke (h : m.Wf) (a : Int) {x : Int} (hx : 0 ≤ x ∧ x < 256) : (pokeM a x m).Wf := by
 unfold pokeM
 split
 ·exact (h.bk_ a hx).latch _
 split
 ·exact (h.u_ (h.u.write hx)).ask _ _
 split
 ·exact h.save a hx
 split
 ·exact h.work_ _ hx
 split
 ·exact h
 ·exact h.setDevice a hx
def aLV (h : m.Wf) (a : Int) : 0 ≤ xE a m ∧ xE a m < 256 := by
 unfold xE
 split
 ·exact aJl h.ck _
 split
 ·decide
 split
 ·exact Be _ _
 ·exact h.bRam.get _
def aK6 (h : m.Wf) (a : Int) : 0 ≤ deviceM a m ∧ deviceM a m < 256 := by
 unfold deviceM
 split; exact aJg _
 split; exact aHo h.pt _
 split; exact aFL h.tm _
 split; exact Be _ _
 split; exact aNO h.bd _
 split; exact h.cp.page
 split; exact h.lets
 split; exact h.bHigh.get _
 decide
def aM4 (u : PU) : 0 ≤ Dl u ∧ Dl u < 256 := Be _ _
def S8 {u : PU} (h : u.Wf) (a : Int) : 0 ≤ qX u a ∧ qX u a < 256 := by
 unfold qX
 repeat' split
 all_goals first | exact h.bV.get _ | exact h.bO.get _ | exact h.bR.get _ | exact Be _ _ | exact aM4 u | omega
def aPR {u : PU} (h : u.Wf) (a : Int) : 0 ≤ vS u a ∧ vS u a < 256 := by
 unfold vS
 repeat' split
 all_goals first | exact S8 h a | omega
def Nr (h : m.Wf) (a : Int) : 0 ≤ qW a m ∧ qW a m < 256 := by
 unfold qW
 split; exact h.bRom.get _
 split; exact S8 h.u.wf _
 split; exact aLV h _
 split; exact h.bWork.get _
 split; decide
 exact aK6 h _
def Kb (h : m.Wf) (a : Int) : 0 ≤ seenM a m ∧ seenM a m < 256 := by
 unfold seenM
 split; decide
 split; exact aPR h.u.wf _
 exact Nr h _
def Mm.Wf.cyc1W (h : m.Wf) : (cyc1 m).Wf := Mm.Wf.ask (m := { m with cycles := (m.cycles + 1) % 18446744073709551616, tm := vO m.tm }) ((h.cycles_ (x := (m.cycles + 1) % 18446744073709551616) I).tm_ h.tm.tick) _ _
def Mm.Wf.cyc2W (h : m.Wf) : (cyc2 m).Wf := (h.pt_ h.pt.tick).ask _ _
def Mm.Wf.cyc3W (h : m.Wf) : (cyc3 m).Wf := by
 unfold cyc3
 split
 ·exact Mm.Wf.u_ (m := { m with cp := tickCp m.cp }) (h.cp_ h.cp.tick) (h.u.sprite _ (Nr (h.cp_ h.cp.tick) _))
 ·exact h
def Mm.Wf.cyc4W (h : m.Wf) : (cyc4 m).Wf := h.bd_ h.bd.tick
def Mm.Wf.cyc5W (h : m.Wf) : (cyc5 m).Wf := ((h.u_ h.u.tick).ask _ _).ask _ _
def Mm.Wf.cyc6W (h : m.Wf) : (qY m).Wf := by unfold qY; split; exact h.ck_ h.ck.tick; exact h
def Mm.Wf.cycle (h : m.Wf) : (cycleM m).Wf := h.cyc1W.cyc2W.cyc3W.cyc4W.cyc5W.cyc6W
def Vu (k : Int) (is : Bool) (m : Mm) : (askM k is m).acc = m.acc := by unfold askM; split <;> rfl
def cycleM_acc (m : Mm) : (cycleM m).acc = m.acc := by
 unfold cycleM qY cyc5 cyc4 cyc3 cyc2 cyc1
 repeat' split
 all_goals simp only [Vu]
def aFI (is : Bool) (m : Mm) : (wM is m).acc = m.acc := by unfold wM; split <;> rfl
def aHK (a x : Int) (m : Mm) : (nH a x m).acc = m.acc := by
 unfold nH
 split
 ·rfl
 split <;> rfl
def aNg (a x : Int) (m : Mm) : (setDeviceM a x m).acc = m.acc := by
 unfold setDeviceM
 split
 ·exact Vu _ _ _
 repeat' split
 all_goals rfl
def Nj (a x : Int) (m : Mm) : (pokeM a x m).acc = m.acc := by
 unfold pokeM
 split
 ·exact aFI _ _
 split
 ·exact Vu _ _ _
 split
 ·exact aHK _ _ _
 split
 ·rfl
 split
 ·rfl
 ·exact aNg _ _ _
def iQ.cycle {n : Nat} (h : iQ n m) : iQ n (cycleM m) := ⟨h.wf.cycle, by rw [cycleM_acc]; exact h.room, by rw [cycleM_acc]; exact h.accs⟩
def iQ.note {n : Nat} (h : iQ (n + 1) m) (k : Int) {a x : Int} (ha : 0 ≤ a ∧ a < 65536) (hx : 0 ≤ x ∧ x < 256) : iQ n (vZ k a x m) := ⟨h.wf.acc_ _, by have := h.room; simp only [vZ, bQ, az]; omega, fun e he => by
 rcases List.mem_append.1 he with he | he
 ·exact h.accs e he
 ·rw [List.mem_singleton.1 he]; exact ⟨ha, hx⟩⟩
def iQ.poke {n : Nat} (h : iQ n m) (a : Int) {x : Int} (hx : 0 ≤ x ∧ x < 256) : iQ n (pokeM a x m) := ⟨h.wf.poke a hx, by rw [Nj]; exact h.room, by rw [Nj]; exact h.accs⟩
def iQ.le {n k : Nat} (h : iQ n m) (hk : k ≤ n) : iQ k m := ⟨h.wf, by have := h.room; omega, h.accs⟩
def iQ.get {n : Nat} (h : iQ (n + 1) m) (k : Int) {a : Int} (ha : 0 ≤ a ∧ a < 65536) : iQ n (vZ k a (seenM a (cycleM m)) (cycleM m)) := h.cycle.note k ha (Kb h.wf.cycle a)
def iQ.write {n : Nat} (h : iQ (n + 1) m) {a x : Int} (ha : 0 ≤ a ∧ a < 65536) (hx : 0 ≤ x ∧ x < 256) : iQ n (fE.write a x m) := by
 show iQ n (vZ 2 a x (if letsCp (cycleM m).cp a = true then pokeM a x (cycleM m) else cycleM m))
 split
 ·exact (h.cycle.poke a hx).note 2 ha hx
 ·exact h.cycle.note 2 ha hx
def iQ.ack {n : Nat} (h : iQ n m) {k : Int} (hk : 0 ≤ k ∧ k < 5) : iQ n (fE.ack k m) := ⟨h.wf.flags_ (Ru h.wf.flags ⟨hk.1, aR⟩).1, h.room, h.accs⟩
def aCi (m : Mm) : 0 ≤ fE.pend m ∧ fE.pend m < 32 := by
 have key : ∀ y : Int, 0 ≤ y ∧ y < 256 → (0 ≤ aQ .u8 y 31 ∧ aQ .u8 y 31 < 32) := fun y hy => eH (p := fun y => 0 ≤ aQ .u8 y 31 ∧ aQ .u8 y 31 < 32) eU hy.1 hy.2
 exact key _ (N3 _ _)
def Mm.Wf.press (h : m.Wf) {x : Int} (hx : 0 ≤ x ∧ x < 256) : (sI x m).Wf := (h.pd_ (h.pd.press hx)).ask _ _
def Mm.Wf.start (h : m.Wf) {l : List gH} (hl : ∀ c ∈ l, sA c) : (fD l m).Wf := (h.press (aBo hl _)).acc_ []
end
def Vo (n : Int) : ((BitVec.ofInt 64 n).toNat : Int) = n % 18446744073709551616 := by
 rw [f5]
 have : (0 : Int) ≤ n % 18446744073709551616 := fx _ M
 exact d6 this
def aMB (a : Nat) (h : a < 18446744073709551616) : a &&& 18446744073709551360 = a / 256 * 256 := by
 have h1 : (18446744073709551360 : Nat) = (2 ^ 56 - 1) <<< 8 := by decide
 have h2 : a / 256 * 256 = (a >>> 8) <<< 8 := by rw [j3, jv]
 rw [h1, h2]
 refine je fun i => ?_
 rw [ke, i3, i3, Nat.testBit_two_pow_sub_one, Nat.testBit_shiftRight]
 by_cases h8 : 8 ≤ i
 ·have h9 : 8 + (i - 8) = i := by omega
  rw [h9]
  by_cases h64 : i - 8 < 56
  ·simp [h8, h64]
  ·have : a.testBit i = false := Nat.testBit_lt_two_pow (ef h (ij (by decide : 18446744073709551616 ≤ 2 ^ 64) (gf M I)))
   simp [this]
 ·simp [h8]
def W7 {n : Int} (h1 : -9223372036854775808 ≤ n) (h2 : n ≤ 9223372036854775807) : lB .i64 n 255 = n / 256 * 256 := by
 have ha := Vo n
 have hb : (BitVec.ofInt 64 n &&& ~~~BitVec.ofInt 64 255).toNat = (BitVec.ofInt 64 n).toNat / 256 * 256 := by
  rw [ia]
  exact aMB _ (BitVec.isLt _)
 show IntKind.i64.wrap ((BitVec.ofInt 64 n &&& ~~~BitVec.ofInt 64 255).toNat : Int) = _
 rw [hb, Nd]
 omega
def aHP (q x : Nat) (hx : x < 256) : (256 * q) ||| x = 256 * q + x := (f6 (i := 8) hx q).symm
def Xq {A x : Int} (hA : A % 256 = 0) (h1 : -9223372036854775808 ≤ A) (h2 : A ≤ 9223372036854775807) (hx : 0 ≤ x ∧ x < 256) : bL .i64 A x = A + x := by
 have ha := Vo A
 have hxx := Vo x
 have hb : (BitVec.ofInt 64 A ||| BitVec.ofInt 64 x).toNat = (BitVec.ofInt 64 A).toNat + (BitVec.ofInt 64 x).toNat := by
  rw [BitVec.toNat_or]
  have hq : (BitVec.ofInt 64 A).toNat = 256 * ((BitVec.ofInt 64 A).toNat / 256) := by omega
  rw [hq]
  exact aHP _ _ I
 show IntKind.i64.wrap ((BitVec.ofInt 64 A ||| BitVec.ofInt 64 x).toNat : Int) = _
 rw [hb, Nd]
 omega
def Ub {A x : Int} (hA : A % 256 = 0) (h1 : -9223372036854775808 ≤ A) (h2 : A ≤ 9223372036854775807) (hx : 0 ≤ x ∧ x < 256) : bL .i64 x A = x + A := by
 have := Xq hA h1 h2 hx
 unfold bL at this ⊢
 rw [BitVec.or_comm, this]; omega
def aBH (n : Int) : aQ .i64 n 255 = n % 256 := Q6 n 8 M
def atT (o : Option Int) : AH := match o with
 | none => .tuple #[.int .i64 0, .bool false]
 | some n => .tuple #[.int .i64 n, .bool true]
def aN4 (c : Ck) (y : Int) : secCk { c with sub := y } = { secCk c with sub := y } := by
 unfold secCk dayCk
 repeat' split
 all_goals first | rfl | (exfalso; simp_all; done)
def aHO (c : Ck) (k : Nat) : secCk { qM c k with sub := (qM c k).sub - 1048576 } = qM c (k + 1) := aN4 _ _
def aHG {a : Int} (h : 0 ≤ a ∧ a < 2) (x y : Bool) : bL .u8 (bL .u8 a (lY x 64)) (lY y 128) = a + lY x 64 + lY y 128 := by
 rcases (show a = 0 ∨ a = 1 by omega) with rfl | rfl <;> cases x <;> cases y <;> decide
def aLf {x : Int} (h : 0 ≤ x ∧ x < 256) : aQ .u8 x 248 = x / 8 * 8 := eH (p := fun x => aQ .u8 x 248 = x / 8 * 8) eU h.1 h.2
def aHA {x : Int} (h : 0 ≤ x ∧ x < 256) : bL .u8 (x * 2 % 256) 1 = x % 128 * 2 + 1 := eH (p := fun x => bL .u8 (x * 2 % 256) 1 = x % 128 * 2 + 1) eU h.1 h.2
def aJR {x : Int} (h : 0 ≤ x ∧ x < 256) : lB .u8 x 128 = x % 128 := eH (p := fun x => lB .u8 x 128 = x % 128) eU h.1 h.2
def aNd {x : Int} (h : 0 ≤ x ∧ x < 256) : aQ .u8 x 129 = x / 128 * 128 + x % 2 := eH (p := fun x => aQ .u8 x 129 = x / 128 * 128 + x % 2) eU h.1 h.2
def aH0 {x : Int} (h : 0 ≤ x ∧ x < 256) : bL .u8 x 126 = x / 128 * 128 + 126 + x % 2 := eH (p := fun x => bL .u8 x 126 = x / 128 * 128 + 126 + x % 2) eU h.1 h.2
def aOt {x : Int} (h : 0 ≤ x ∧ x < 256) : bL .u8 x 248 = 248 + x % 8 := eH (p := fun x => bL .u8 x 248 = 248 + x % 8) eU h.1 h.2
section
variable {b : Bd}
def flat4 : ∀ (l : List Vc), (aN dK l).length = 4 * l.length
 | [] => rfl
 | v :: l => by show (dK v ++ aN dK l).length = _; rw [bQ, flat4 l, Fz, eF]; omega
def aBq : ∀ (l : List Vc) (n k : Nat) (x : AH), n < l.length → (dK (l.getD n Bq))[k]? = some x → (aN dK l)[n * 4 + k]? = some x
 | v :: l, 0, k, x, _, hx => lM (A := dK v) (by simpa using hx)
 | v :: l, n + 1, k, x, hn, hx => iH (A := dK v) (n := n * 4 + k) (by rw [Fz]; omega) (aBq l n k x (by simpa using hn) (by simpa using hx))
def aC6 : ∀ (l : List Vc) (n k : Nat) (x : AH) (y : Vc), n < l.length → k < 4 → (dK (l.getD n Bq)).set k x = dK y → aV (aN dK l) (n * 4 + k) [x] = aN dK (l.set n y)
 | v :: l, 0, k, x, y, _, hk, hy => by
  have h1 : aV (dK v) k [x] = dK y := by
   rw [← hy, show ((v :: l).getD 0 Bq) = v from rfl]
   rcases (show k = 0 ∨ k = 1 ∨ k = 2 ∨ k = 3 by omega) with rfl | rfl | rfl | rfl <;> rfl
  show aV (dK v ++ aN dK l) (0 * 4 + k) [x] = dK y ++ aN dK l
  rw [gj, cg, mD (by rw [Fz, az]; omega), h1]
 | v :: l, n + 1, k, x, y, hn, hk, hy => by
  show aV (dK v ++ aN dK l) ((n + 1) * 4 + k) [x] = dK v ++ aN dK (l.set n y)
  have hn' : n < l.length := by simpa using hn
  rw [gE (n := n * 4 + k) (by rw [Fz]; omega) (by rw [flat4, az]; omega), aC6 l n k x y hn' hk (by simpa using hy)]
structure Bd.Ln (b : Bd) : Prop where
 lR : b.regs.length = 48
 bR : bE b.regs
 lV : b.vs.length = 4
def Bd.Wf.ln (h : b.Wf) : b.Ln := ⟨h.lR, h.bR, h.lV⟩
instance : Coe b.Wf b.Ln := ⟨Bd.Wf.ln⟩
def Bd.Ln.r_ (h : b.Ln) (n : Nat) : 0 ≤ b.r n ∧ b.r n < 256 := h.bR.get n
def Bd.Ln.setV (h : b.Ln) (n : Nat) (x : Vc) : (b.setV n x).Ln := ⟨h.lR, h.bR, U5⟩
def Bd.Ln.slide_ (h : b.Ln) (x : Int) : ({ b with slide := x } : Bd).Ln := ⟨h.lR, h.bR, h.lV⟩
def cBd_len (h : b.Ln) : (cBd b).length = 70 := by simp [cBd, h.lR, h.lV, flat4]
def cBd_r (h : b.Ln) {j : Nat} (hj : j < 48) : (cBd b)[j]? = some (.int .u8 (b.r j)) := lM (gJ Kh)
def Xn (h : b.Ln) {j : Nat} {v : AH} (hv : ([.bool b.on, .int .i64 b.div, .int .i64 b.step] : AA)[j]? = some v) : (cBd b)[48 + j]? = some v := iH (n := j) Co (lM hv)
def cBd_on (h : b.Ln) : (cBd b)[48]? = some (.bool b.on) := Xn h (j := 0) rfl
def Wx (h : b.Ln) : (cBd b)[49]? = some (.int .i64 b.div) := Xn h (j := 1) rfl
def cBd_step (h : b.Ln) : (cBd b)[50]? = some (.int .i64 b.step) := Xn h (j := 2) rfl
def vR (h : b.Ln) {n k : Nat} {x : AH} (hn : n < 4) (hx : (dK (b.v n))[k]? = some x) : (cBd b)[51 + n * 4 + k]? = some x := by
 rw [eh]
 exact iH (n := 3 + (n * 4 + k)) Ct (iH (n := n * 4 + k) U (lM (aBq _ _ _ _ (by rw [h.lV]; exact hn) hx)))
def I7 (h : b.Ln) {j : Nat} {v : AH} (hv : ([.int .i64 b.pitch, .int .i64 b.slide, .bool b.slides] : AA)[j]? = some v) : (cBd b)[67 + j]? = some v :=
 iH (n := 19 + j) Ct (iH (n := 16 + j) (by show 19 + j = 3 + (16 + j); omega) (iH (n := j) (by rw [flat4, h.lV]) hv))
def Kc (h : b.Ln) : (cBd b)[67]? = some (.int .i64 b.pitch) := I7 h (j := 0) rfl
def Uz (h : b.Ln) : (cBd b)[68]? = some (.int .i64 b.slide) := I7 h (j := 1) rfl
def aLx (h : b.Ln) : (cBd b)[69]? = some (.bool b.slides) := I7 h (j := 2) rfl
def putBd_r (h : b.Ln) {j : Nat} (hj : j < 48) (x : Int) : aV (cBd b) j [.int .u8 x] = cBd (putB j x b) := by
 unfold cBd
 rw [mD (by rw [eD, h.lR, az]; omega), vG .u8 Kh]
 rfl
def Za (h : b.Ln) {j : Nat} {v : AH} (hj : j < 3) : aV (cBd b) (48 + j) [v] = b.regs.map (.int .u8) ++ (aV [.bool b.on, .int .i64 b.div, .int .i64 b.step] j [v] ++ (aN dK b.vs ++ [.int .i64 b.pitch, .int .i64 b.slide, .bool b.slides])) := by
 unfold cBd
 rw [gE (n := j) Co lA, mD lA]
def aE0 (h : b.Ln) (x : Bool) : aV (cBd b) 48 [.bool x] = cBd { b with on := x } := Za h (j := 0) M
def Zd (h : b.Ln) (x : Int) : aV (cBd b) 49 [.int .i64 x] = cBd { b with div := x } := Za h (j := 1) M
def putBd_step (h : b.Ln) (x : Int) : aV (cBd b) 50 [.int .i64 x] = cBd { b with step := x } := Za h (j := 2) M
def putBd_v (h : b.Ln) {n k : Nat} {x : AH} {y : Vc} (hn : n < 4) (hk : k < 4) (hy : (dK (b.v n)).set k x = dK y) : aV (cBd b) (51 + n * 4 + k) [x] = cBd (b.setV n y) := by
 rw [eh]
 unfold cBd
 rw [gE (n := 3 + (n * 4 + k)) Ct Mb, gE (A := [.bool b.on, .int .i64 b.div, .int .i64 b.step]) (o := 3 + (n * 4 + k)) (n := n * 4 + k) rfl Mb, mD (by rw [flat4, h.lV, az]; omega),
  aC6 b.vs n k x y (by rw [h.lV]; exact hn) hk hy]
 rfl
def Xj (h : b.Ln) {j : Nat} {v : AH} (hj : j < 3) : aV (cBd b) (67 + j) [v] = b.regs.map (.int .u8) ++ ([.bool b.on, .int .i64 b.div, .int .i64 b.step] ++ (aN dK b.vs ++ aV [.int .i64 b.pitch, .int .i64 b.slide, .bool b.slides] j [v])) := by
 unfold cBd
 rw [gE (n := 19 + j) Ct Mb, gE (A := [.bool b.on, .int .i64 b.div, .int .i64 b.step]) (o := 19 + j) (n := 16 + j) (by show 19 + j = 3 + (16 + j); omega) Mb, gE (n := j) (by rw [flat4, h.lV]) lA]
def Ww (h : b.Ln) (x : Int) : aV (cBd b) 67 [.int .i64 x] = cBd { b with pitch := x } := Xj h (j := 0) M
def Wu (h : b.Ln) (x : Int) : aV (cBd b) 68 [.int .i64 x] = cBd { b with slide := x } := Xj h (j := 1) M
def aAa (h : b.Ln) (x : Bool) : aV (cBd b) 69 [.bool x] = cBd { b with slides := x } := Xj h (j := 2) M
def v_set (h : b.Ln) {n : Nat} (hn : n < 4) (x : Vc) : (b.setV n x).v n = x := by
 unfold Bd.v Bd.setV
 rw [fV, iu (by rw [h.lV]; exact hn)]; rfl
def setV_same (h : b.Ln) {n : Nat} (hn : n < 4) : b.setV n (b.v n) = b := by
 have hl : n < b.vs.length := by rw [h.lV]; exact hn
 have h1 : b.v n = b.vs[n] := by unfold Bd.v; rw [fV, am hl]; rfl
 show ({ b with vs := b.vs.set n (b.v n) } : Bd) = b
 rw [h1, List.set_getElem_self]
def setV_setV (b : Bd) (n : Nat) (x y : Vc) : (b.setV n x).setV n y = b.setV n y := by unfold Bd.setV; dsimp only; rw [List.set_set]
def aNS {v : Nat} {x : Vc} (h : ¬ (v = 2 ∨ b.r (5 * v + 2) % 8 = 0)) (h2 : 0 < x.wait - 1) : levV b v x = { x with wait := x.wait - 1 } := by unfold levV; rw [ae h, ag h2]
def aIP {v : Nat} {x : Vc} (h : ¬ (v = 2 ∨ b.r (5 * v + 2) % 8 = 0)) (h2 : ¬ 0 < x.wait - 1) (h3 : b.r (5 * v + 2) / 8 % 2 = 1) : levV b v x = { x with wait := b.r (5 * v + 2) % 8, lev := min (x.lev + 1) 15 } := by unfold levV; rw [ae h, ae h2, ag h3]
def aK2 {v : Nat} {x : Vc} (h : ¬ (v = 2 ∨ b.r (5 * v + 2) % 8 = 0)) (h2 : ¬ 0 < x.wait - 1) (h3 : ¬ b.r (5 * v + 2) / 8 % 2 = 1) : levV b v x = { x with wait := b.r (5 * v + 2) % 8, lev := max (x.lev - 1) 0 } := by unfold levV; rw [ae h, ae h2, ae h3]
def aJ1 (h : b.slides = false) : slideB b = b := ag h
section
variable (h1 : b.slides = true)
include h1
def aJ0 (h2 : 0 < b.slide - 1) : slideB b = { b with slide := b.slide - 1 } := by unfold slideB; rw [ae Lk, ag h2]
def aPo (h2 : ¬ 0 < b.slide - 1) (h3 : everyB b = 0) : slideB b = eA { b with slide := b.slide - 1 } := by unfold slideB; rw [ae Lk, ae h2]; dsimp only; rw [ag h3]
def aIU (h2 : ¬ 0 < b.slide - 1) (h3 : ¬ everyB b = 0) (h4 : uE (eA { b with slide := b.slide - 1 }) = true) : slideB b = sX (eA { b with slide := b.slide - 1 }) := by unfold slideB sX; rw [ae Lk, ae h2]; dsimp only; rw [ae h3, ag h4, ag h4]
def aMR (h2 : ¬ 0 < b.slide - 1) (h3 : ¬ everyB b = 0) (h4 : uE (eA { b with slide := b.slide - 1 }) = false) (h5 : byB b = 0) : slideB b = eA { b with slide := b.slide - 1 } := by unfold slideB; rw [ae Lk, ae h2]; dsimp only; rw [ae h3, ae Up, ag h5]
def aPB (h2 : ¬ 0 < b.slide - 1) (h3 : ¬ everyB b = 0) (h4 : uE (eA { b with slide := b.slide - 1 }) = false) (h5 : ¬ byB b = 0) : slideB b = sX (Iw (eA { b with slide := b.slide - 1 })) := by unfold slideB; rw [ae Lk, ae h2]; dsimp only; rw [ae h3, ae Up, ae h5]
end
def aPr (h : uE b = false) : sX b = b := by unfold sX; rw [ae (by rw [h]; decide)]
def aGj (h : b.Wf) : (eA { b with slide := b.slide - 1 }).Wf := by
 have := Dv b
 exact ⟨h.lR, h.bR, h.lV, h.div, h.step, h.oV, h.pitch, R3⟩
def aHM {x y : Int} (hx : 0 ≤ x ∧ x < 256) (hy : 0 ≤ y ∧ y < 8) : bL .u8 (x / 8 * 8) y = x / 8 * 8 + y := by
 rcases (show y = 0 ∨ y = 1 ∨ y = 2 ∨ y = 3 ∨ y = 4 ∨ y = 5 ∨ y = 6 ∨ y = 7 by omega) with rfl | rfl | rfl | rfl | rfl | rfl | rfl | rfl
 ·exact eH (p := fun x => bL .u8 (x / 8 * 8) 0 = x / 8 * 8 + 0) eU hx.1 hx.2
 ·exact eH (p := fun x => bL .u8 (x / 8 * 8) 1 = x / 8 * 8 + 1) eU hx.1 hx.2
 ·exact eH (p := fun x => bL .u8 (x / 8 * 8) 2 = x / 8 * 8 + 2) eU hx.1 hx.2
 ·exact eH (p := fun x => bL .u8 (x / 8 * 8) 3 = x / 8 * 8 + 3) eU hx.1 hx.2
 ·exact eH (p := fun x => bL .u8 (x / 8 * 8) 4 = x / 8 * 8 + 4) eU hx.1 hx.2
 ·exact eH (p := fun x => bL .u8 (x / 8 * 8) 5 = x / 8 * 8 + 5) eU hx.1 hx.2
 ·exact eH (p := fun x => bL .u8 (x / 8 * 8) 6 = x / 8 * 8 + 6) eU hx.1 hx.2
 ·exact eH (p := fun x => bL .u8 (x / 8 * 8) 7 = x / 8 * 8 + 7) eU hx.1 hx.2
def aOW {x : Int} (h : 0 ≤ x ∧ x < 256) : lB .u8 x 7 = x / 8 * 8 := eH (p := fun x => lB .u8 x 7 = x / 8 * 8) eU h.1 h.2
def aDm {x y : Int} (hx : 0 ≤ x ∧ x < 8) (hy : 0 ≤ y ∧ y < 8) : (bL .i64 x y != 0) = decide (x ≠ 0 ∨ y ≠ 0) := by
 have key : ∀ a b : Fin 8, (bL .i64 (a.val : Int) (b.val : Int) != 0) = decide ((a.val : Int) ≠ 0 ∨ (b.val : Int) ≠ 0) := by decide +kernel
 have h := key ⟨x.toNat, aR⟩ ⟨y.toNat, aR⟩
 rw [show ((x.toNat : Nat) : Int) = x from d6 hx.1, show ((y.toNat : Nat) : Int) = y from d6 hy.1] at h
 exact h
def ones_cBd (b : Bd) : fL (cBd b) = true := by
 have h4 : ∀ l : List Vc, fL (aN dK l) = true := fun l => by
  induction l with
  | nil => rfl
  | cons v l ih => show fL (dK v ++ aN dK l) = true; unfold fL at ih ⊢; rw [ga, ih]; rfl
 have h1 := kE .u8 b.regs
 have h2 := h4 b.vs
 unfold fL at h1 h2 ⊢
 unfold cBd
 rw [ga, ga, ga, h1, h2]
 rfl
def putZ (h : b.Ln) : aV (cBd bdZ) 0 (cBd b) = cBd b := by
 unfold aV
 rw [gi, bq, cg, d8 (by rw [cBd_len h, cBd_len bdZ_wf]; decide), aw]
def aPA {w : AI} {bb : Nat} (hr : aK w bb 0 (cBd b)) : aK w bb 22 ((b.regs.drop 22).map (.int .u8)) := fun i v hi => by
 have h1 : (cBd b)[22 + i]? = some v := lM (by rw [ie, ee] at hi; exact hi)
 have := hr (22 + i) v h1
 rwa [cg] at this
def aGn (h : b.Ln) : aV (cBd { bdZ with div := b.div, step := b.step }) 22 (((b.regs.drop 22).map Z).take (min 26 26)) = cBd (offB b) := by
 have hl : ((b.regs.drop 22).map Z).length = 26 := by rw [eD, dN, h.lR]
 rw [dm (by rw [hl]; decide)]
 unfold cBd
 rw [mD (by rw [hl]; exact bi 48)]
 have h1 : aV ((List.replicate 48 (0 : Int)).map Z) 22 ((b.regs.drop 22).map Z) = (offB b).regs.map (.int .u8) := by
  have e : (offB b).regs = List.replicate 22 0 ++ b.regs.drop 22 := rfl
  have d : List.drop (22 + 26) ((List.replicate 48 (0 : Int)).map Z) = [] := d8 (by rw [eD, cx]; decide)
  unfold aV
  rw [hl, e, d, bz, aw]
  rfl
 exact aD (· ++ _) h1
def Is : ∀ (l : List Vc) (n : Nat), n < l.length → ((aN dK l).drop (n * 4)).take 4 = dK (l.getD n Bq)
 | v :: l, 0, _ => by show List.take 4 (dK v ++ aN dK l) = dK v; rw [ji (by rw [Fz]; exact bi 4)]; rfl
 | v :: l, n + 1, hn => by
  have h1 : (n + 1) * 4 = (dK v).length + n * 4 := by rw [Fz]; omega
  show List.take 4 (List.drop ((n + 1) * 4) (dK v ++ aN dK l)) = _
  rw [h1, i2, d8 I, bq, show (dK v).length + n * 4 - (dK v).length = n * 4 by omega, Is l n (by simpa using hn)]
  rfl
def row_vs (h : b.Ln) {w : AI} {bb : Nat} (hr : aK w bb 0 (cBd b)) : aK w bb 51 (aN dK b.vs) := fun i v hi => by
 have h1 : (cBd b)[51 + i]? = some v := iH (n := 3 + i) Ct (iH (A := [.bool b.on, .int .i64 b.div, .int .i64 b.step]) (n := i) rfl (lM hi))
 have := hr (51 + i) v h1
 rwa [cg] at this
def qE (b : Bd) {n : Nat} (hn : n < 4) (h : (b.v n).on = true) : bL .u8 (onV b n) (2 ^ n) = onV b (n + 1) := by
 have key : ∀ a x y z : Bool, bL .u8 (112 + (if a = true then 128 else 0)) 1 = 112 + (if a = true then 128 else 0) + 1 ∧ bL .u8 (112 + (if a = true then 128 else 0) + (if x = true then 1 else 0)) 2 = 112 + (if a = true then 128 else 0) + (if x = true then 1 else 0) + 2 ∧
   bL .u8 (112 + (if a = true then 128 else 0) + (if x = true then 1 else 0) + (if y = true then 2 else 0)) 4 = 112 + (if a = true then 128 else 0) + (if x = true then 1 else 0) + (if y = true then 2 else 0) + 4 ∧
   bL .u8 (112 + (if a = true then 128 else 0) + (if x = true then 1 else 0) + (if y = true then 2 else 0) + (if z = true then 4 else 0)) 8 = 112 + (if a = true then 128 else 0) + (if x = true then 1 else 0) + (if y = true then 2 else 0) + (if z = true then 4 else 0) + 8 := by decide +kernel
 have k := key b.on (b.v 0).on (b.v 1).on (b.v 2).on
 rcases (show n = 0 ∨ n = 1 ∨ n = 2 ∨ n = 3 by omega) with rfl | rfl | rfl | rfl
 ·show bL .u8 (onV b 0) 1 = onV b 0 + (if (b.v 0).on = true then 1 else 0); rw [ag h]; exact k.1
 ·show bL .u8 (onV b 1) 2 = onV b 1 + (if (b.v 1).on = true then 2 else 0); rw [ag h]; exact k.2.1
 ·show bL .u8 (onV b 2) 4 = onV b 2 + (if (b.v 2).on = true then 4 else 0); rw [ag h]; exact k.2.2.1
 ·show bL .u8 (onV b 3) 8 = onV b 3 + (if (b.v 3).on = true then 8 else 0); rw [ag h]; exact k.2.2.2
def Nc (b : Bd) {n : Nat} (h : (b.v n).on = false) : onV b n = onV b (n + 1) := by
 show onV b n = onV b n + (if (b.v n).on = true then 2 ^ n else 0)
 rw [ae (by rw [h]; decide)]; omega
def Uv (f : Bd → Nat → Vc → Vc) (b : Bd) : ∀ n, (turnV f b n).step = b.step
 | 0 => rfl
 | n + 1 => Uv f b n
def Hk (b : Bd) : (halfB b).step = b.step := by unfold halfB; split; exact Uv _ _ _; rfl
def aPL (b : Bd) : (slideB b).step = b.step := by
 unfold slideB sX
 dsimp only
 repeat' split
 all_goals rfl
def beat_step (b : Bd) : (beatB b).step = b.step := by
 unfold beatB
 split
 ·rw [aPL, Hk]
 split
 ·unfold Bt; rw [Uv, Hk]
 ·exact Hk b
def aOV {x y : Int} (hy : 0 ≤ y ∧ y < 8) (_hx : 0 ≤ x) : shr .i64 x y = x / 2 ^ y.toNat := by
 unfold shr
 have : min y.toNat IntKind.i64.bits = y.toNat := fv (by show y.toNat ≤ 64; omega)
 rw [this, et]
 exact j4 (gp M)
end
structure Ad where
 mb : Nat
 ub : Nat
 rb : Nat
 ob : Nat
 oc : Nat
 sp : AA
 rc : Nat
 rs : AA
 plan : AH
 tab : AH
def tT (A : Ad) (m : Mm) : AA := [.int .u8 m.flags, .int .u8 m.lets, .int .u64 m.steps, .int .u64 m.cycles, .slice (Q_ A.ob) m.rom.length A.oc, A.plan] ++ (cHd m.hd ++ [A.tab, P_ A.ub, .slice (Q_ A.rb) m.ram.length A.rc])
def iW (A : Ad) (acc : AH) (m : Mm) : AA := tT A m ++ (m.work.map (.int .u8) ++ (m.high.map (.int .u8) ++ [acc]))
def cMm (A : Ad) (acc : AH) (m : Mm) : AA := cS m.cpu ++ (jY m.bk ++ (nJ m.ck ++ (iZ m.tm ++ (mT m.pd ++ (pQ m.pt ++ (cCp m.cp ++ (cBd m.bd ++ iW A acc m)))))))
section
variable {A : Ad} {acc : AH} {m : Mm}
def lJ (m : Mm) : AA := cS m.cpu ++ (jY m.bk ++ (nJ m.ck ++ (iZ m.tm ++ (mT m.pd ++ (pQ m.pt ++ cCp m.cp)))))
def vB : cMm A acc m = lJ m ++ (cBd m.bd ++ iW A acc m) := rfl
def qJ : (lJ m).length = 49 := rfl
def midM_len : (tT A m).length = 16 := rfl
structure dY (m : Mm) : Prop where
 bd : m.bd.Ln
 work : m.work.length = 8192
 high : m.high.length = 127
def Mm.Wf.ln (h : m.Wf) : dY m := ⟨h.bd.ln, h.lWork, h.lHigh⟩
def cMm_len (h : dY m) : (cMm A acc m).length = 8455 := by
 rw [vB, bQ, qJ, bQ, cBd_len h.bd]
 unfold iW
 rw [bQ, midM_len, bQ, eD, bQ, eD, h.work, h.high, az]
def aHu (h : m.Wf) {a : Int} (_ha : 0 ≤ a ∧ a < 65536) : 0 ≤ Dg a m.bk ∧ Dg a m.bk < m.rom.length := by
 have h1 := aA2 h.bk a
 have h2 := h1.2.2 h.banks
 have h3 := h.lRom
 unfold Dg
 omega
def Bj (k : Int) (is : Bool) (m : Mm) : (askM k is m).u = m.u := by unfold askM; split <;> rfl
def aH2 (n : Nat) (x : Int) : cMm A acc { m with ram := m.ram.set n x } = cMm A acc m := by
 unfold cMm iW tT
 dsimp only
 rw [cy]
def Df (k : Int) (is : Bool) (m : Mm) : (askM k is m).ram = m.ram := by unfold askM; split <;> rfl
def By (k : Int) (is : Bool) (m : Mm) : (askM k is m).rom = m.rom := by unfold askM; split <;> rfl
def aHU (a x : Int) (m : Mm) : (setDeviceM a x m).u = m.u := by
 unfold setDeviceM
 split
 ·exact Bj _ _ _
 repeat' split
 all_goals rfl
def aOl (a x : Int) (m : Mm) : (setDeviceM a x m).ram = m.ram := by
 unfold setDeviceM
 split
 ·exact Df _ _ _
 repeat' split
 all_goals rfl
def aIV (a x : Int) (m : Mm) : (pokeM a x m).rom = m.rom := by
 unfold pokeM
 split
 ·unfold wM; split <;> rfl
 split
 ·exact By _ _ _
 split
 ·unfold nH; split
  ·rfl
  split <;> rfl
 split
 ·rfl
 split
 ·rfl
 unfold setDeviceM
 split
 ·exact By _ _ _
 repeat' split
 all_goals rfl
def aCM (m : Mm) : (cyc2 (cyc1 m)).ram = m.ram := (Df _ _ _).trans (Df _ _ _)
def aA1 (m : Mm) : (cyc2 (cyc1 m)).rom = m.rom := (By _ _ _).trans (By _ _ _)
def aAo (m : Mm) : (cyc3 m).ram = m.ram ∧ (cyc3 m).rom = m.rom := by unfold cyc3; split <;> exact ⟨rfl, rfl⟩
def aEy (m : Mm) : (qY m).ram = m.ram ∧ (qY m).rom = m.rom := by unfold qY; split <;> exact ⟨rfl, rfl⟩
def cycleM_ram (m : Mm) : (cycleM m).ram = m.ram := by
 unfold cycleM
 rw [(aEy _).1]
 refine ((Df _ _ _).trans (Df _ _ _)).trans ?_
 show (cyc3 (cyc2 (cyc1 m))).ram = m.ram
 rw [(aAo _).1, aCM]
def cycleM_rom (m : Mm) : (cycleM m).rom = m.rom := by
 unfold cycleM
 rw [(aEy _).2]
 refine ((By _ _ _).trans (By _ _ _)).trans ?_
 show (cyc3 (cyc2 (cyc1 m))).rom = m.rom
 rw [(aAo _).2, aA1]
def aNQ (m : Mm) : (cyc1 m).u = m.u := Bj _ _ _
def aHn (m : Mm) : (cyc2 m).u = m.u := Bj _ _ _
def cyc5_u (m : Mm) : (cyc5 m).u = tickU m.u := (Bj _ _ _).trans (Bj _ _ _)
def aNe (hb : yD m.cp = true) : cyc3 m = { m with cp := tickCp m.cp, u := vF m.u (De m.cp) (qW (wR m.cp) { m with cp := tickCp m.cp }) } := ag (dr hb)
def aJA (hb : yD m.cp = false) : cyc3 m = m ∧ ({ m with cp := tickCp m.cp } : Mm) = m := by
 have h0 := dw hb
 refine ⟨ae h0, ?_⟩
 have h1 : tickCp m.cp = m.cp := ae h0
 rw [h1]
def iY.laterM {α : Type} {w0 w : AI} {ms : AE} {H : aF} {c : α → AA} {a : AC} {l : List α} (h : iY w0 c a l) (hm : ∀ p, a = some p → p.block ∉ ms) (hw : St w0 ms H w) : iY w c a l := fun hl => by
 obtain ⟨b, off, rfl, hr⟩ := h hl
 exact ⟨b, off, U, cG hr (hm _ U) w hw⟩
def aL9 {j : Nat} {v : AH} (hv : (lJ m)[j]? = some v) : (cMm A acc m)[j]? = some v := lM (A := lJ m) hv
def Pk (h : dY m) {j : Nat} {v : AH} (hv : (iW A acc m)[j]? = some v) : (cMm A acc m)[119 + j]? = some v :=
 iH (A := lJ m) (n := 70 + j) (by rw [qJ]; omega) (iH (n := j) (by rw [cBd_len h.bd]) hv)
def get_mid (h : dY m) {j : Nat} {v : AH} (hv : (tT A m)[j]? = some v) : (cMm A acc m)[119 + j]? = some v := Pk h (lM hv)
def aBG (h : dY m) {j : Nat} (hj : j < 8192) : (cMm A acc m)[135 + j]? = some (.int .u8 (m.work.getD j 0)) := by
 rw [show 135 + j = 119 + (16 + j) by omega]
 exact Pk h (iH (n := j) Eb (lM (gJ (by rw [h.work]; exact hj))))
def get_high (h : dY m) {j : Nat} (hj : j < 127) : (cMm A acc m)[8327 + j]? = some (.int .u8 (m.high.getD j 0)) := by
 rw [show 8327 + j = 119 + (16 + (8192 + j)) by omega]
 exact Pk h (iH (n := 8192 + j) Eb (iH (n := j) No (lM (gJ (by rw [h.high]; exact hj)))))
def aEB (h : dY m) : (cMm A acc m)[8454]? = some acc := by
 rw [show (8454 : Nat) = 119 + (16 + (8192 + 127)) by omega]
 exact Pk h (iH (n := 8192 + 127) Eb (iH (n := 127) No (iH (n := 0) (by rw [eD, h.high]) U)))
def zV {w : AI} {b n : Nat} {X S Y : AA} (hr : aK w b 0 (X ++ (S ++ Y))) (hn : X.length = n) : aK w b n S := fun i v hi => by
 have h1 : (X ++ (S ++ Y))[n + i]? = some v := iH (n := i) (by rw [hn]) (lM hi)
 have := hr (n + i) v h1
 rwa [cg] at this
variable {w : AI} {b : Nat}
def aDB (hr : aK w b 0 (cMm A acc m)) : aK w b 0 (cS m.cpu) := zV (X := []) hr rfl
def rowM_bk (hr : aK w b 0 (cMm A acc m)) : aK w b 14 (jY m.bk) := zV (X := cS m.cpu) hr rfl
def rowM_ck (hr : aK w b 0 (cMm A acc m)) : aK w b 22 (nJ m.ck) := zV (X := cS m.cpu ++ jY m.bk) (Y := iZ m.tm ++ (mT m.pd ++ (pQ m.pt ++ (cCp m.cp ++ (cBd m.bd ++ iW A acc m))))) hr rfl
def Yw (hr : aK w b 0 (cMm A acc m)) : aK w b 34 (iZ m.tm) := zV (X := cS m.cpu ++ (jY m.bk ++ nJ m.ck)) (Y := mT m.pd ++ (pQ m.pt ++ (cCp m.cp ++ (cBd m.bd ++ iW A acc m)))) hr rfl
def Xw (hr : aK w b 0 (cMm A acc m)) : aK w b 39 (mT m.pd) := zV (X := cS m.cpu ++ (jY m.bk ++ (nJ m.ck ++ iZ m.tm))) (Y := pQ m.pt ++ (cCp m.cp ++ (cBd m.bd ++ iW A acc m))) hr rfl
def D8 (hr : aK w b 0 (cMm A acc m)) : aK w b 41 (pQ m.pt) := zV (X := cS m.cpu ++ (jY m.bk ++ (nJ m.ck ++ (iZ m.tm ++ mT m.pd)))) (Y := cCp m.cp ++ (cBd m.bd ++ iW A acc m)) hr rfl
def rowM_cp (hr : aK w b 0 (cMm A acc m)) : aK w b 47 (cCp m.cp) := zV (X := cS m.cpu ++ (jY m.bk ++ (nJ m.ck ++ (iZ m.tm ++ (mT m.pd ++ pQ m.pt))))) (Y := cBd m.bd ++ iW A acc m) hr rfl
def rowM_bd (hr : aK w b 0 (cMm A acc m)) : aK w b 49 (cBd m.bd) := zV (X := lJ m) (Y := iW A acc m) hr rfl
def yZ {o : Nat} {vs : AA} (hv : o + vs.length ≤ 49) : aV (cMm A acc m) o vs = aV (lJ m) o vs ++ (cBd m.bd ++ iW A acc m) := mD (A := lJ m) (by rw [qJ]; exact hv)
def aIR (x : CS) : aV (cMm A acc m) 0 (cS x) = cMm A acc { m with cpu := x } := (yZ (ai rfl)).trans rfl
def aAS (x : Bk) : aV (cMm A acc m) 14 (jY x) = cMm A acc { m with bk := x } := (yZ (ai rfl)).trans rfl
def putM_ck (x : Ck) : aV (cMm A acc m) 22 (nJ x) = cMm A acc { m with ck := x } := (yZ (ai rfl)).trans rfl
def aCz (x : Tm) : aV (cMm A acc m) 34 (iZ x) = cMm A acc { m with tm := x } := (yZ (ai rfl)).trans rfl
def aCV (x : Pd) : aV (cMm A acc m) 39 (mT x) = cMm A acc { m with pd := x } := (yZ (ai rfl)).trans rfl
def aFm (x : Pt) : aV (cMm A acc m) 41 (pQ x) = cMm A acc { m with pt := x } := (yZ (ai rfl)).trans rfl
def Lg (x : Cp) : aV (cMm A acc m) 47 (cCp x) = cMm A acc { m with cp := x } := (yZ (ai rfl)).trans rfl
def putM_bd (h : dY m) {x : Bd} (hx : x.Ln) : aV (cMm A acc m) 49 (cBd x) = cMm A acc { m with bd := x } := by
 rw [vB, gE (n := 0) (by rw [qJ]) (by rw [bQ, cBd_len hx, cBd_len h.bd]; omega), mD (by rw [cBd_len hx, cBd_len h.bd]; decide)]
 have h1 : aV (cBd m.bd) 0 (cBd x) = cBd x := by
  unfold aV
  rw [gi, bq, cg, d8 (by rw [cBd_len hx, cBd_len h.bd]; decide), aw]
 rw [h1]
 rfl
def Ma (h : dY m) {o : Nat} {vs : AA} (hv : o + vs.length ≤ (iW A acc m).length) : aV (cMm A acc m) (119 + o) vs = lJ m ++ (cBd m.bd ++ aV (iW A acc m) o vs) := by
 rw [vB, gE (n := 70 + o) (by rw [qJ]; omega) (by rw [bQ, cBd_len h.bd]; omega), gE (n := o) (by rw [cBd_len h.bd]) hv]
def tailM_len (h : dY m) : (iW A acc m).length = 8336 := by
 unfold iW
 rw [bQ, midM_len, bQ, eD, bQ, eD, h.work, h.high, az]
def En (h : dY m) {o : Nat} {v : AH} (hv : o < 16) : aV (cMm A acc m) (119 + o) [v] = lJ m ++ (cBd m.bd ++ (aV (tT A m) o [v] ++ (m.work.map (.int .u8) ++ (m.high.map (.int .u8) ++ [acc])))) := by
 rw [Ma h Qa]
 unfold iW
 rw [mD (by rw [midM_len, az]; omega)]
def Jv (h : dY m) (x : Int) : aV (cMm A acc m) 119 [.int .u8 x] = cMm A acc { m with flags := x } := (En h (o := 0) M).trans rfl
def Lb (h : dY m) (x : Int) : aV (cMm A acc m) 120 [.int .u8 x] = cMm A acc { m with lets := x } := (En h (o := 1) M).trans rfl
def aCT (h : dY m) (x : Int) : aV (cMm A acc m) 121 [.int .u64 x] = cMm A acc { m with steps := x } := (En h (o := 2) M).trans rfl
def aE3 (h : dY m) (x : Int) : aV (cMm A acc m) 122 [.int .u64 x] = cMm A acc { m with cycles := x } := (En h (o := 3) M).trans rfl
def aMa (h : dY m) {j : Nat} (hj : j < 8192) (x : Int) : aV (cMm A acc m) (135 + j) [.int .u8 x] = cMm A acc { m with work := m.work.set j x } := by
 rw [show 135 + j = 119 + (16 + j) by omega, Ma h Qa]
 unfold iW
 rw [gE (n := j) Eb (by rw [bQ, eD, h.work, az]; omega), mD (by rw [eD, h.work, az]; omega), vG .u8 (by rw [h.work]; exact hj)]
 rfl
def putM_high (h : dY m) {j : Nat} (hj : j < 127) (x : Int) : aV (cMm A acc m) (8327 + j) [.int .u8 x] = cMm A acc { m with high := m.high.set j x } := by
 rw [show 8327 + j = 119 + (16 + (8192 + j)) by omega, Ma h Qa]
 unfold iW
 rw [gE (n := 8192 + j) Eb (by rw [bQ, eD, bQ, eD, h.work, h.high, az]; omega), gE (n := j) No (by rw [bQ, eD, h.high, az]; omega), mD (by rw [eD, h.high, az]; omega), vG .u8 (by rw [h.high]; exact hj)]
 rfl
def H6 (h : dY m) (x : AH) : aV (cMm A acc m) 8454 [x] = cMm A x m := by
 rw [show (8454 : Nat) = 119 + (16 + (8192 + 127)) by omega, Ma h Qa]
 unfold iW
 rw [gE (n := 8192 + 127) Eb (by rw [bQ, eD, bQ, eD, h.work, h.high, az, az]; omega), gE (n := 127) No (by rw [bQ, eD, h.high, az, az]; omega), gE (A := m.high.map (.int .u8)) (B := [acc]) (vs := [x]) (o := 127) (n := 0) (by rw [eD, h.high]) (bi 1)]
 rfl
end
def tA (A : Ad) (m : Mm) (H : aF) : Prop := ∃ va Ga, bM 329 3 va m.acc.length (aN cAc m.acc) Ga ∧ H = Ga ++ [(A.mb, J (cMm A va m) 134), (A.ub, J (cU m.u) 172), (A.rb, J (m.ram.map (.int .u8) ++ A.rs) 5), (A.ob, J (m.rom.map (.int .u8) ++ A.sp) 5)]
def gV (b : Bool) : Int := if b = true then 1 else 0
def r4 (u : PU) : AB := u.R.set 4 u.line
def Dt (u : PU) : AB := (r4 u).take 6 ++ (r4 u).drop 7
def sF (u : PU) : AB := [u.dot, u.own % 256, u.frames % 256, u.frames / 256, gV u.sig]
def vH (u : PU) : AB := u.V ++ u.O ++ Dt u ++ sF u
def fQ (u : PU) : AB := vH u ++ u.P
structure Sg where
 a : AC
 c : Nat
 l : AB
def cSg (s : Sg) : AA := [.slice s.a s.l.length s.c]
def cSg_len (s : Sg) : (cSg s).length = 1 := rfl
def mL (l : List Sg) : AB := l.flatMap (·.l)
def aFt (l : List Sg) (i : Nat) {s : Sg} (h : l[i]? = some s) : mL (l.take (i + 1)) = mL (l.take i) ++ s.l := by
 rw [Ep h]; simp [mL]
def C8 (l : List Sg) (i : Nat) : (mL (l.take i)).length ≤ (mL l).length := by
 conv => rhs; rw [← dz i l]
 simp only [mL, List.flatMap_append, bQ]; omega
section
variable {u : PU}
def r4_len (h : u.Wf) : (r4 u).length = 12 := by simp [r4, h.lR]
def aCG (h : u.Wf) : (Dt u).length = 11 := by simp [Dt, r4_len h]
def Ye (h : u.Wf) : (vH u).length = 8368 := by simp [vH, aCG h, sF, h.lV, h.lO]
def Um (h : u.Wf) : (fQ u).length = 31408 := by simp [fQ, Ye h, h.lP]
def At (u : PU) (b b3 : Nat) : List Sg := [⟨some ⟨b, 0, none⟩, 8192, u.V⟩, ⟨some ⟨b, 8192, none⟩, 160, u.O⟩, ⟨some ⟨b3, 0, none⟩, 12, (r4 u).take 6⟩, ⟨some ⟨b3, 7, none⟩, 5, (r4 u).drop 7⟩]
def aB7 (u : PU) (b b3 : Nat) : mL (At u b b3) = u.V ++ u.O ++ Dt u := by simp [mL, At, Dt]
def P6 (h : u.Wf) (b b3 : Nat) : (mL (At u b b3)).length = 8363 := by rw [aB7]; simp [aCG h, h.lV, h.lO]
def aHs {w : AI} {b off : Nat} {l : AB} (h : aK w b off (l.map (.int .u8))) (n : Nat) : aK w b off ((l.take n).map (.int .u8)) := fun j v hv => h j v (by
 rw [df, fe] at hv
 split at hv
 ·rw [df]; exact hv
 ·simp at hv)
def aL2 {w : AI} {b off : Nat} {l : AB} (h : aK w b off (l.map (.int .u8))) (n : Nat) : aK w b (off + n) ((l.drop n).map (.int .u8)) := fun j v hv => by
 have := h (n + j) v (by
  rw [df, ee] at hv
  rw [df]; exact hv)
 rwa [← eh] at this
def aHt (h : u.Wf) {w : AI} {b b3 : Nat} (hr : aK w b 0 (cU u)) (h3 : aK w b3 0 ((r4 u).map (.int .u8))) : ∀ s ∈ At u b b3, Ns w .u8 s.a s.l ∧ s.l.length ≤ s.c := by
 intro s hs
 simp only [At, eg, ec, or_false] at hs
 rcases hs with rfl | rfl | rfl | rfl
 ·exact ⟨Ns.of (rowV hr), by rw [h.lV]; exact bi _⟩
 ·exact ⟨Ns.of (rowO h hr), by rw [h.lO]; exact bi _⟩
 ·exact ⟨Ns.of (aHs h3 6), by simp [r4_len h]⟩
 ·exact ⟨Ns.of (by simpa using aL2 h3 7), by simp [r4_len h]⟩
def aJa (h : u.Wf) {w : AI} {b : Nat} (hr : aK w b 0 (cU u)) {i : Nat} (_hi : i < 144) : aK w b (8369 + i * 160) (((u.P.drop (i * 160)).take 160).map (.int .u8)) := fun j v hv => by
 have := aL8 h hr (i * 160 + j) v (by
  rw [df] at hv ⊢
  rw [fe] at hv
  split at hv
  ·rw [ee] at hv; exact hv
  ·simp at hv)
 rw [eh]; exact this
def H3 (l : AB) (i : Nat) : l.take (i * 160) ++ (l.drop (i * 160)).take 160 = l.take ((i + 1) * 160) := by
 rw [jk, Nat.one_mul, iw]
end
def qG (l : AB) : AB := ((l.drop 8352).take 6 ++ 0 :: (l.drop 8358).take 5).set 4 0
def uH (l : AB) : PU := ⟨l.take 8192, (l.drop 8192).take 160, qG l, l.getD 8356 0, l.getD 8363 0, l.getD 8364 0, l.getD 8365 0 + 256 * l.getD 8366 0, l.getD 8367 0 == 1, l.drop 8368⟩
def mN (l : AB) : Bool := decide (l.getD 8356 0 < 154) && decide (l.getD 8363 0 < 114) && (lB .u8 (l.getD 8353 0) 120 == 0) && decide (l.getD 8367 0 ≤ 1) && (l.drop 8368).all (fun x => decide (x ≤ 3))
def lK (l : AB) : Int := if l.length ≠ 31408 then 6 else if mN l = true then 0 else 5
def lD (u : PU) (l : AB) : PU := if lK l = 0 then uH l else u
def aY (x : Int) (i : Nat) : Int := x / 256 ^ i % 256
def dX (n : Nat) (x : Int) : AB := (List.range n).map (aY x)
def val (l : AB) : Nat → Int
 | 0 => 0
 | i + 1 => val l i + l.getD i 0 * 256 ^ i
def Gb (n : Nat) (x : Int) : (dX n x).length = n := by simp [dX]
def aEn (x : Int) (i : Nat) : 0 ≤ aY x i ∧ aY x i < 256 := ⟨fx _ M, f7 _ M⟩
def uU (n : Nat) (x : Int) : bE (dX n x) := fun y hy => by
 simp only [dX, jd, gt] at hy
 obtain ⟨i, _, rfl⟩ := hy
 exact aEn x i
def X6 (n : Nat) (x : Int) : dX (n + 1) x = dX n x ++ [aY x n] := by simp [dX, ej]
def So (i : Nat) : (0 : Int) < 256 ^ i := gp M
def val_ok {l : AB} (h : bE l) : ∀ i, 0 ≤ val l i ∧ val l i < 256 ^ i
 | 0 => by simp [val]
 | i + 1 => by
  have h1 := val_ok h i
  have h2 := h.get i
  have hp := So i
  have h3 : l.getD i 0 * 256 ^ i ≤ 255 * 256 ^ i := jg I I
  have h4 : 0 ≤ l.getD i 0 * 256 ^ i := Int.mul_nonneg h2.1 I
  have h5 : (256 : Int) ^ (i + 1) = 256 ^ i * 256 := Int.pow_succ ..
  unfold val
  rw [h5]
  constructor <;> omega
def S2 {l m : AB} : ∀ n, (∀ j, j < n → l.getD j 0 = m.getD j 0) → val l n = val m n
 | 0, _ => rfl
 | n + 1, h => by unfold val; rw [S2 n fun j hj => h j I, h n I]
def aMd {n i : Nat} (h : i < n) (x : Int) : (dX n x).getD i 0 = aY x i := by
 unfold dX; rw [fV, df, ig h]; rfl
def aAu (x : Int) : ∀ n m, n ≤ m → val (dX m x) n = x % 256 ^ n
 | 0, _, _ => by show (0 : Int) = x % 1; omega
 | n + 1, m, h => by
  show val (dX m x) n + (dX m x).getD n 0 * 256 ^ n = _
  rw [aAu x n m I, aMd I, Int.pow_succ]
  unfold aY
  have hp := So n
  have e1 := i4 x (256 ^ n)
  have e2 := i4 (x / 256 ^ n) 256
  have e3 : x / (256 ^ n * 256) = x / 256 ^ n / 256 := (Int.ediv_ediv_of_nonneg I).symm
  have e4 := i4 x (256 ^ n * 256)
  rw [e3] at e4
  have e5 : 256 ^ n * 256 * (x / 256 ^ n / 256) = 256 ^ n * (256 * (x / 256 ^ n / 256)) := Int.mul_assoc ..
  have e6 : 256 ^ n * (x / 256 ^ n) = 256 ^ n * (x / 256 ^ n % 256) + 256 ^ n * (256 * (x / 256 ^ n / 256)) := by rw [← Int.mul_add, e2]
  have e7 : x / 256 ^ n % 256 * 256 ^ n = 256 ^ n * (x / 256 ^ n % 256) := Int.mul_comm ..
  omega
def Ts {a b : Nat} (h : a ≤ b) : (256 : Int) ^ a ≤ 256 ^ b := by
 have h1 := gf (n := 256) M h
 have h2 : ((256 ^ a : Nat) : Int) ≤ ((256 ^ b : Nat) : Int) := by omega
 simpa using h2
def aIS {b y : Int} {i : Nat} (hi : i < 8) (hy : y = ((8 * i : Nat) : Int)) (hb : 0 ≤ b ∧ b < 256) : shl .u64 b y = b * 256 ^ i := by
 subst hy
 have h : (2 : Int) ^ min (((8 * i : Nat) : Int)).toNat IntKind.u64.bits = 256 ^ i := by
  rcases (show i = 0 ∨ i = 1 ∨ i = 2 ∨ i = 3 ∨ i = 4 ∨ i = 5 ∨ i = 6 ∨ i = 7 by omega) with rfl | rfl | rfl | rfl | rfl | rfl | rfl | rfl <;> decide
 have h1 := So i
 have h2 := Ts (show i ≤ 7 by omega)
 have h3 : b * 256 ^ i ≤ 255 * 256 ^ i := jg I I
 have h4 : 0 ≤ b * 256 ^ i := Int.mul_nonneg hb.1 I
 rw [zO _ h, H5]
 exact Int.emod_eq_of_lt h4 I
def aJt {x y : Int} {i : Nat} (hi : i < 8) (hy : y = ((8 * i : Nat) : Int)) : IntKind.u8.wrap (shr .u64 x y) = aY x i := by
 subst hy
 rw [nQ]
 unfold aY shr
 have hp := So i
 rw [et _ (j4 (gp M))]
 rcases (show i = 0 ∨ i = 1 ∨ i = 2 ∨ i = 3 ∨ i = 4 ∨ i = 5 ∨ i = 6 ∨ i = 7 by omega) with rfl | rfl | rfl | rfl | rfl | rfl | rfl | rfl
 all_goals rfl
def aJ9 {A b y : Int} {i : Nat} (hi : i < 8) (hy : y = ((8 * i : Nat) : Int)) (hA : 0 ≤ A ∧ A < 256 ^ i) (hb : 0 ≤ b ∧ b < 256) : bL .u64 A (shl .u64 b y) = A + b * 256 ^ i := by
 rw [aIS hi hy hb]
 have key : ∀ k : Nat, (256 : Int) ^ i = ((2 ^ k : Nat) : Int) → k ≤ 56 → bL .u64 A (b * 256 ^ i) = A + b * 256 ^ i := by
  intro k hk hk2
  have hle : 2 ^ k ≤ 2 ^ 56 := gf M hk2
  have hpos : 0 < 2 ^ k := ir M
  rw [hk] at hA ⊢
  obtain ⟨a, rfl⟩ : ∃ a : Nat, A = a := ⟨A.toNat, aR⟩
  obtain ⟨n, rfl⟩ : ∃ n : Nat, b = n := ⟨b.toNat, aR⟩
  have h1 : n * 2 ^ k ≤ 255 * 2 ^ k := gc _ I
  have h2 : a < 2 ^ k := by omega
  have e1 : ((n : Int) * ((2 ^ k : Nat) : Int)) = ((n * 2 ^ k : Nat) : Int) := (ka ..).symm
  rw [e1, F2 I (by show (a : Int) < 18446744073709551616; omega) I (by show ((n * 2 ^ k : Nat) : Int) < 18446744073709551616; omega)]
  have e2 : a ||| n * 2 ^ k = n * 2 ^ k + a := by rw [kg, gk]; exact (f6 h2 n).symm
  rw [db, db, e2]
  omega
 rcases (show i = 0 ∨ i = 1 ∨ i = 2 ∨ i = 3 ∨ i = 4 ∨ i = 5 ∨ i = 6 ∨ i = 7 by omega) with rfl | rfl | rfl | rfl | rfl | rfl | rfl | rfl
 ·exact key 0 U M
 ·exact key 8 U M
 ·exact key 16 U M
 ·exact key 24 U M
 ·exact key 32 U M
 ·exact key 40 U M
 ·exact key 48 U M
 ·exact key 56 U M
inductive FK where
 | byte
 | word
 | bool
 | int (n : Nat)
 | long (n : Nat)
deriving DecidableEq
def FK.many : FK → Nat
 | .byte => 1
 | .word => 2
 | .bool => 1
 | .int n => n
 | .long n => n
def FK.cell : FK → Int → AH
 | .byte, x => .int .u8 x
 | .word, x => .int .u16 x
 | .bool, x => .bool (x == 1)
 | .int _, x => .int .i64 x
 | .long _, x => .int .u64 x
def FK.at (L : AA) (o : Nat) : Int := match L[o]? with
 | some (.int _ x) => x
 | some (.bool b) => if b = true then 1 else 0
 | _ => 0
def FK.ok : FK → Int → Prop
 | .byte, x => 0 ≤ x ∧ x < 256
 | .word, x => 0 ≤ x ∧ x < 65536
 | .bool, x => x = 0 ∨ x = 1
 | .int _, x => -9223372036854775808 ≤ x ∧ x ≤ 9223372036854775807
 | .long _, x => 0 ≤ x ∧ x < 18446744073709551616
def gP (k : FK) (L : AA) (o : Nat) : Prop := ∃ x, L[o]? = some (k.cell x) ∧ k.ok x
abbrev Ps := AA × AB
def pass1 (r : Bool) (k : FK) (s : Ps) (o : Nat) : Ps :=
 if r = true then (aV s.1 o [k.cell (val s.2 k.many)], s.2.drop k.many) else (s.1, s.2 ++ dX k.many (FK.at s.1 o))
def bI (r : Bool) (k : FK) (os : AE) (s : Ps) : Ps := os.foldl (pass1 r k) s
def passes_snoc {r : Bool} {k : FK} {os : AE} {s : Ps} {i o : Nat} (h : os[i]? = some o) : bI r k (os.take (i + 1)) s = pass1 r k (bI r k (os.take i) s) o := by
 unfold bI
 rw [fk, h, iq]
 rfl
def gP.at {k : FK} {L : AA} {o : Nat} (h : gP k L o) : L[o]? = some (k.cell (FK.at L o)) ∧ k.ok (FK.at L o) := by
 obtain ⟨x, hx, hk⟩ := h
 have : FK.at L o = x := by
  unfold FK.at; rw [hx]
  cases k <;> try rfl
  rcases hk with rfl | rfl <;> rfl
 rw [this]; exact ⟨hx, hk⟩
def gP.lt {k : FK} {L : AA} {o : Nat} (h : gP k L o) : o < L.length := by
 obtain ⟨x, hx, _⟩ := h
 exact (List.getElem?_eq_some_iff.1 hx).1
def Lj {l : AA} {o j : Nat} {v : AH} (ho : o < l.length) : (aV l o [v])[j]? = if j = o then some v else l[j]? := by
 have e : aV l o [v] = l.set o v := by
  unfold aV
  rw [d5, ag ho, eC]; rfl
 rw [e, jt]
 split
 ·rename_i h; subst h; rw [ag rfl]
 ·rename_i h; rw [ae (Ne.symm h)]
def gP.put {k k' : FK} {L : AA} {o o' : Nat} {x : Int} (h : gP k L o) (h' : gP k' L o') (hx : k'.ok x) (hk : o = o' → k = k') : gP k (aV L o' [k'.cell x]) o := by
 by_cases ho : o = o'
 ·subst ho; cases hk rfl
  exact ⟨x, by rw [Lj h.lt, ag rfl], hx⟩
 ·obtain ⟨y, hy, hky⟩ := h
  exact ⟨y, by rw [Lj h'.lt, ae ho]; exact hy, hky⟩
def FK.fits : FK → Prop
 | .int n => n ≤ 4
 | .long n => n ≤ 8
 | _ => True
def FK.val_ok {k : FK} (hk : k.fits) {l : AB} (h : bE l) : ∃ y, k.cell (val l k.many) = k.cell y ∧ k.ok y := by
 have hv := Go.Proofs.YthigpmaadmneaaaGreatDoor.val_ok h k.many
 cases k with
 | byte => exact ⟨_, rfl, hv⟩
 | word => exact ⟨_, rfl, hv⟩
 | bool =>
  by_cases h1 : val l 1 = 1
  ·exact ⟨1, by show Value.bool (val l 1 == 1) = _; rw [h1]; rfl, .inr U⟩
  ·exact ⟨0, by show Value.bool (val l 1 == 1) = .bool (0 == 1); rw [show (val l 1 == 1) = false by simpa using h1]; rfl, .inl U⟩
 | int n =>
  have h4 := Ts (show n ≤ 4 from hk)
  exact ⟨_, U, by have := hv.1; show -9223372036854775808 ≤ val l n; simp only [FK.many] at this; omega, by have := hv.2; show val l n ≤ 9223372036854775807; simp only [FK.many] at this; omega⟩
 | long n =>
  have h8 := Ts (show n ≤ 8 from hk)
  exact ⟨_, U, hv.1, by have := hv.2; show val l n < 18446744073709551616; simp only [FK.many] at this; omega⟩
def pN {a b : AB} (ha : bE a) (hb : bE b) : bE (a ++ b) := fun x hx => (List.mem_append.1 hx).elim (ha x) (hb x)
def uP {a : AB} (h : bE a) (n : Nat) : bE (a.drop n) := fun x hx => h x (di hx)
def Fq {a : AB} (h : bE a) (n : Nat) : bE (a.take n) := fun x hx => h x (dh hx)
section
variable {r : Bool} {k : FK} {s : Ps}
def E6 (h : bE s.2) (o : Nat) : bE (pass1 r k s o).2 := by
 unfold pass1
 split
 ·exact uP h _
 ·exact pN h (uU _ _)
def Ws : ∀ {os : AE} {s : Ps}, bE s.2 → bE (bI r k os s).2
 | [], _, h => h
 | o :: os, _, h => Ws (os := os) (E6 h o)
def Hv (r : Bool) (n : Nat) (m : Nat) : Nat := if r = true then m - n else m + n
def Zz : ∀ {os : AE} {s : Ps}, (bI r k os s).2.length = Hv r (os.length * k.many) s.2.length
 | [], s => by unfold Hv; simp [bI]
 | o :: os, s => by
  show (bI r k os (pass1 r k s o)).2.length = _
  rw [Zz]
  unfold pass1 Hv
  rw [eF, j5]
  cases r
  ·simp [Gb]; omega
  ·simp; omega
def aER (hf : k.fits) (hb : bE s.2) {o : Nat} (ho : gP k s.1 o) {k' : FK} {o' : Nat} (h : gP k' s.1 o') (hk : o' = o → k' = k) : gP k' (pass1 r k s o).1 o' := by
 unfold pass1
 split
 ·obtain ⟨y, hy, hok⟩ := FK.val_ok hf hb
  show gP k' (aV s.1 o [k.cell (val s.2 k.many)]) o'
  rw [hy]
  exact h.put ho hok hk
 ·exact h
def Mi (hf : k.fits) {k' : FK} {o' : Nat} : ∀ {os : AE} {s : Ps}, bE s.2 → (∀ o ∈ os, gP k s.1 o) → gP k' s.1 o' → (o' ∈ os → k' = k) → gP k' (bI r k os s).1 o'
 | [], _, _, _, h, _ => h
 | o :: os, s, hb, hs, h, hk => by
  show gP k' (bI r k os (pass1 r k s o)).1 o'
  have ho := hs o (.head _)
  exact Mi hf (E6 hb o) (fun x hx => aER hf hb ho (hs x (.tail _ hx)) (fun _ => U)) (aER hf hb ho h (fun e => hk (e ▸ .head _))) (fun hx => hk (.tail _ hx))
def Wh {l : AA} {o : Nat} {v : AH} (h : o < l.length) : (aV l o [v]).length = l.length := yQ C9
def aO2 (a b : AE) : bI r k (a ++ b) s = bI r k b (bI r k a s) := iq ..
end
def goes (r : Bool) (n : Nat) (x : Int) (bs : AB) : Int × AB := if r = true then (val bs n, bs.drop n) else (x, bs ++ dX n x)
def aLC {L : AA} {o : Nat} {v : AH} (h : L[o]? = some v) : aV L o [v] = L := by
 have ho := (List.getElem?_eq_some_iff.1 h).1
 refine List.ext_getElem? fun j => ?_
 rw [Lj ho]
 split
 ·rename_i e; subst e; exact h.symm
 ·rfl
def pass1_goes {k : FK} {s : Ps} {o : Nat} (h : gP k s.1 o) (r : Bool) : pass1 r k s o = (aV s.1 o [k.cell (goes r k.many (FK.at s.1 o) s.2).1], (goes r k.many (FK.at s.1 o) s.2).2) := by
 unfold pass1 goes
 cases r
 ·show (s.1, _) = (aV s.1 o [k.cell (FK.at s.1 o)], _); rw [aLC h.at.1]; rfl
 ·rfl
def aAe {r : Bool} {n : Nat} {x : Int} {bs : AB} (hx : 0 ≤ x ∧ x < 256 ^ n) (hb : bE bs) : 0 ≤ (goes r n x bs).1 ∧ (goes r n x bs).1 < 256 ^ n := by
 unfold goes; split
 ·exact Go.Proofs.YthigpmaadmneaaaGreatDoor.val_ok hb n
 ·exact hx
def aKM {x : Int} {i : Nat} (hi : i < 8) : aY (x % 18446744073709551616) i = aY x i := by
 unfold aY
 rcases (show i = 0 ∨ i = 1 ∨ i = 2 ∨ i = 3 ∨ i = 4 ∨ i = 5 ∨ i = 6 ∨ i = 7 by omega) with rfl | rfl | rfl | rfl | rfl | rfl | rfl | rfl
 all_goals omega
def aN7 {x : Int} {n : Nat} (hn : n ≤ 8) : dX n (x % 18446744073709551616) = dX n x := by
 unfold dX
 refine List.map_congr_left fun i hi => aKM ?_
 have := List.mem_range.1 hi; omega
def aDo {r : Bool} {n : Nat} {x : Int} {bs : AB} (hn : n ≤ 4) (hx : -9223372036854775808 ≤ x ∧ x ≤ 9223372036854775807) (hb : bE bs) :
  IntKind.i64.wrap (goes r n (x % 18446744073709551616) bs).1 = (goes r n x bs).1 ∧ (goes r n (x % 18446744073709551616) bs).2 = (goes r n x bs).2 := by
 unfold goes
 cases r
 ·exact ⟨by show IntKind.i64.wrap (x % 18446744073709551616) = x; rw [Nd]; omega, by show bs ++ dX n _ = bs ++ dX n _; rw [aN7 I]⟩
 ·have hv := Go.Proofs.YthigpmaadmneaaaGreatDoor.val_ok hb n
  have h4 := Ts hn
  exact ⟨by show IntKind.i64.wrap (val bs n) = val bs n; rw [bY I I], U⟩
def vX (ty : Nat → Option FK) (L : AA) : Prop := ∀ o k, ty o = some k → gP k L o
structure kP (r : Bool) (n : Nat) (s : Ps) : Prop where
 byts : bE s.2
 en : r = true → n ≤ s.2.length
 sz : s.2.length + n ≤ 1000000
def kP.pass {r : Bool} {k : FK} {os : AE} {n : Nat} {s : Ps} (h : kP r (os.length * k.many + n) s) : kP r n (bI r k os s) := by
 have h1 := h.sz
 refine ⟨Ws h.byts, fun hr => ?_, ?_⟩
 ·have h2 := h.en hr
  rw [Zz]; unfold Hv; rw [ag hr]; omega
 ·rw [Zz]; unfold Hv; split <;> omega
def kP.le {r : Bool} {n m : Nat} {s : Ps} (h : kP r n s) (hm : m ≤ n) : kP r m s := ⟨h.byts, fun hr => ij hm (h.en hr), by have := h.sz; omega⟩
def vX.pass {ty : Nat → Option FK} {r : Bool} {k : FK} {os : AE} {s : Ps} (h : vX ty s.1) (hf : k.fits) (hb : bE s.2) (ho : ∀ o ∈ os, ty o = some k) : vX ty (bI r k os s).1 := fun o' k' h' =>
 Mi hf hb (fun o hx => h o k (ho o hx)) (h o' k' h') fun hx => by rw [ho o' hx] at h'; exact (aj h').symm
def kP.at {r : Bool} {k : FK} {os : AE} {s : Ps} {i : Nat} (h : kP r (os.length * k.many) s) (hi : i < os.length) : kP r k.many (bI r k (os.take i) s) := by
 have h1 : i * k.many + k.many ≤ os.length * k.many := by rw [← j5]; exact gc _ hi
 exact kP.pass (h.le (by rw [fZ, fv I]; exact h1))
def Sa {r : Bool} {k : FK} {os : AE} {s : Ps} {i o : Nat} (hk : k.fits) (hb : bE s.2) (hos : ∀ o ∈ os, gP k s.1 o) (ho : os[i]? = some o) : gP k (bI r k (os.take i) s).1 o :=
 Mi hk hb (fun x hx => hos x (dh hx)) (hos o (cw ho)) (fun _ => rfl)
def cT (o n : Nat) : AE := (List.range n).map (o + ·)
def Js (o n : Nat) : (cT o n).length = n := by simp [cT]
def Yu {o n x : Nat} (h : x ∈ cT o n) : ∃ i, i < n ∧ x = o + i := by
 simp only [cT, jd, gt] at h
 obtain ⟨i, h1, h2⟩ := h
 exact ⟨i, h1, h2.symm⟩
def Jh {o n i : Nat} (h : i < n) : o + i ∈ cT o n := by
 simp only [cT, jd, gt]
 exact ⟨i, h, U⟩
def aAI (r : Bool) (k : FK) (o i : Nat) (s : Ps) : bI r k (cT o (i + 1)) s = bI r k [o + i] (bI r k (cT o i) s) := by
 unfold cT
 rw [ej, bz, aO2]; rfl
def LineB (T : Nat) (r : Bool) (va : AH) (bs : AB) (G : aF) : Prop :=
 if r = true then ∃ (cb off c : Nat) (all : AA), va = .slice (some ⟨cb, off, none⟩) bs.length c ∧ bs.length ≤ c ∧ G = [(cb, J all T)] ∧ ∀ j v, (bs.map Z)[j]? = some v → all[off + j]? = some v
 else bM T 1 va bs.length (bs.map (.int .u8)) G
def LineB.read {T : Nat} {va : AH} {bs : AB} {G : aF} (h : LineB T true va bs G) : ∃ (cb off c : Nat) (all : AA), va = .slice (some ⟨cb, off, none⟩) bs.length c ∧ bs.length ≤ c ∧ G = [(cb, J all T)] ∧ ∀ j v, (bs.map Z)[j]? = some v → all[off + j]? = some v := h
def LineB.write {T : Nat} {va : AH} {bs : AB} {G : aF} (h : LineB T false va bs G) : bM T 1 va bs.length (bs.map (.int .u8)) G := h
def LineB.cut {T cb off c n : Nat} {bs : AB} {all : AA} (hle : bs.length ≤ c) (hn : n ≤ bs.length) (hall : ∀ j v, (bs.map Z)[j]? = some v → all[off + j]? = some v) :
  LineB T true (.slice (some ⟨cb, cut1 off n c, none⟩) (bs.length - n) (c - n)) (bs.drop n) [(cb, J all T)] := by
 refine ⟨cb, cut1 off n c, c - n, all, by rw [dN], by rw [dN]; omega, U, fun j v hv => ?_⟩
 rw [ie, ee] at hv
 by_cases hc : c = n
 ·rw [ea (by rw [eD]; omega)] at hv; cases hv
 ·rw [sS hc, eh]; exact hall _ _ hv
def Hz (b : Nat) (o : Nat) : AA := [.pointer (some ⟨b, o, none⟩)]
def cPtr_len (b o : Nat) : (Hz b o).length = 1 := rfl
def St.apartT {w0 w : AI} {ms : AE} {A : aF} {x : Nat × Obj} {G : aF} (hw : St w0 ms (A ++ ([x] ++ G)) w) : x.1 ∉ A.map (·.1) := fun hx => by
 have h := hw.nodup
 rw [bz, ed] at h
 exact h.2.2 _ hx _ aL U
def eV (o : Nat) : Option FK :=
 if o < 8 then some .byte else if o < 10 then some .word else if o < 14 then some .bool else if o < 17 then none else if o < 19 then some .bool else if o < 21 then some (.int 2) else if o < 25 then some .byte
 else if o < 26 then some (.int 2) else if o < 27 then some (.int 4) else if o < 29 then some .bool else if o < 34 then some .byte else if o < 35 then some .word else if o < 38 then some .byte else if o < 39 then some .bool
 else if o < 44 then some .byte else if o < 47 then some (.int 2) else if o < 48 then some .byte else if o < 49 then some (.int 2) else if o < 97 then some .byte else if o < 98 then some .bool else if o < 100 then some (.int 2)
 else if o < 116 then (if o % 4 = 0 then some .bool else some (.int 2)) else if o < 118 then some (.int 2) else if o < 119 then some .bool else if o < 121 then some .byte else if o < 123 then some (.long 8) else if o < 135 then none
 else if o < 8454 then some .byte else none
def gA : AE := [0, 1, 2, 3, 4, 5, 6, 7, 119, 120, 21, 39, 40, 47]
def gW : AE := [8, 9, 34]
def gB : AE := [10, 11, 12, 13, 17, 18, 38, 27, 28]
def gI : AE := [19, 20, 25, 44, 45, 46, 48]
def gC : AE := [22, 23, 24, 35, 36, 37, 41, 42, 43]
def qV (r : Bool) (s : Ps) : Nat → Ps
 | 0 => s
 | i + 1 => bI r (.int 2) [101 + 4 * i, 102 + 4 * i, 103 + 4 * i] (bI r .bool [100 + 4 * i] (qV r s i))
def uD (r : Bool) (s : Ps) : Ps := qV r (bI r (.int 2) [98, 99, 116, 117] (bI r .bool [97, 118] (bI r .byte (cT 49 48) s))) 4
def Cl (r : Bool) (s : Ps) : Ps :=
 bI r .byte gC (bI r (.int 4) [26] (bI r (.int 2) gI (pass1 r (.long 8) (pass1 r (.long 8) (bI r .bool gB (bI r .word gW (bI r .byte gA s))) 121) 122)))
def vE (r : Bool) (s : Ps) : Ps := bI r .byte (cT 8327 127) (bI r .byte (cT 135 8192) (uD r (bI r .byte (cT 29 5) (Cl r s))))
def V6 {α : Type} (G : List α) (x y : α) : ((G ++ [x]) ++ [y]).Perm ((G ++ [y]) ++ [x]) := by
 rw [eC, eC]
 exact List.Perm.append_left _ (List.Perm.swap _ _ _)
def M3 : ∀ o ∈ gA, eV o = some .byte := by decide
def E4 : ∀ o ∈ gW, eV o = some .word := by decide
def F5 : ∀ o ∈ gB, eV o = some .bool := by decide
def Vq : ∀ o ∈ gI, eV o = some (.int 2) := by decide
def C5 : ∀ o ∈ gC, eV o = some .byte := by decide
def Zq {a n : Nat} (h : ∀ i, i < n → eV (a + i) = some .byte) : ∀ o ∈ cT a n, eV o = some .byte := fun o ho => by
 obtain ⟨i, hi, rfl⟩ := Yu ho
 exact h i hi
def B7 : ∀ o ∈ cT 29 5, eV o = some .byte := by decide
def Ic : ∀ o ∈ cT 49 48, eV o = some .byte := Zq fun i hi => by
 have key : ∀ k : Fin 48, eV (49 + k.val) = some .byte := by decide
 exact key ⟨i, hi⟩
def Ol : ∀ o ∈ cT 135 8192, eV o = some .byte := Zq fun i hi => by unfold eV; repeat (first | rw [ae I] | rw [ag I])
def Uo : ∀ o ∈ cT 8327 127, eV o = some .byte := Zq fun i hi => by unfold eV; repeat (first | rw [ae I] | rw [ag I])
structure gQ (r : Bool) (n : Nat) (s : Ps) : Prop where
 ty : vX eV s.1
 ok : kP r n s
section
variable {r : Bool} {s : Ps} {n : Nat}
def gQ.pass {k : FK} {os : AE} (h : gQ r (os.length * k.many + n) s) (hk : k.fits) (ho : ∀ o ∈ os, eV o = some k) : gQ r n (bI r k os s) := ⟨h.ty.pass hk h.ok.byts ho, h.ok.pass⟩
def gQ.fit {k : FK} {os : AE} (h : gQ r n s) (ho : ∀ o ∈ os, eV o = some k) : ∀ o ∈ os, gP k s.1 o := fun o hx => h.ty o k (ho o hx)
def gQ.le {m : Nat} (h : gQ r n s) (hm : m ≤ n) : gQ r m s := ⟨h.ty, h.ok.le hm⟩
def gQ.one {k : FK} {o : Nat} (h : gQ r (k.many + n) s) (hk : k.fits) (ho : eV o = some k) : gQ r n (pass1 r k s o) :=
 gQ.pass (os := [o]) (k := k) (h.le aL) hk aBi
def Tg {i : Nat} (hi : i < 4) : ∀ o ∈ [100 + 4 * i], eV o = some .bool := by
 rcases (show i = 0 ∨ i = 1 ∨ i = 2 ∨ i = 3 by omega) with rfl | rfl | rfl | rfl <;> decide
def Ud {i : Nat} (hi : i < 4) : ∀ o ∈ [101 + 4 * i, 102 + 4 * i, 103 + 4 * i], eV o = some (.int 2) := by
 rcases (show i = 0 ∨ i = 1 ∨ i = 2 ∨ i = 3 by omega) with rfl | rfl | rfl | rfl <;> decide
def gQ.voices (h : gQ r (28 + n) s) : ∀ i, i ≤ 4 → gQ r (7 * (4 - i) + n) (qV r s i)
 | 0, _ => h
 | i + 1, hi => ((((h.voices i I).le (m := 1 + (6 + (7 * (4 - (i + 1)) + n))) I).pass (k := .bool) (os := [100 + 4 * i]) trivial (Tg I)).pass (k := .int 2) (os := [101 + 4 * i, 102 + 4 * i, 103 + 4 * i]) (show 2 ≤ 4 by decide) (Ud I))
def gQ.board (h : gQ r (86 + n) s) : gQ r n (uD r s) := by
 have h1 := (h.le (m := 48 * 1 + (38 + n)) I).pass (k := .byte) (os := cT 49 48) trivial Ic
 have h2 := (h1.le (m := 2 + (36 + n)) I).pass (k := .bool) (os := [97, 118]) trivial (show ∀ o ∈ [97, 118], eV o = some .bool by decide)
 have h3 := (h2.le (m := 8 + (28 + n)) I).pass (k := .int 2) (os := [98, 99, 116, 117]) (show 2 ≤ 4 by decide) (show ∀ o ∈ [98, 99, 116, 117], eV o = some (.int 2) by decide)
 exact (h3.voices 4 M).le I
def aKS {k : FK} {o j : Nat} (h : gP k s.1 o) (hj : j ≠ o) : (pass1 r k s o).1[j]? = s.1[j]? := by
 unfold pass1
 split
 ·show (aV s.1 o _)[j]? = _; rw [Lj h.lt, ae hj]
 ·rfl
def aEC {k : FK} {j : Nat} (hk : k.fits) (hj : eV j = none) : ∀ {os : AE} {s : Ps}, vX eV s.1 → bE s.2 → (∀ o ∈ os, eV o = some k) → (bI r k os s).1[j]? = s.1[j]?
 | [], _, _, _, _ => rfl
 | o :: os, s, h, hb, ho => by
  show (bI r k os (pass1 r k s o)).1[j]? = _
  have h1 : vX eV (pass1 r k s o).1 := vX.pass (os := [o]) (k := k) h hk hb (by intro x hx; rw [List.mem_singleton.1 hx]; exact ho o (.head _))
  rw [aEC hk hj h1 (E6 hb o) (fun x hx => ho x (.tail _ hx)), aKS (h o k (ho o (.head _))) (by rintro rfl; rw [ho j (.head _)] at hj; cases hj)]
structure sO (j : Nat) (s s' : Ps) : Prop where
 ty : vX eV s'.1
 byts : bE s'.2
 at_ : s'.1[j]? = s.1[j]?
def sO.pass {j : Nat} {s' : Ps} (h : sO j s s') (hj : eV j = none) {k : FK} {os : AE} (hk : k.fits) (ho : ∀ o ∈ os, eV o = some k) : sO j s (bI r k os s') := ⟨h.ty.pass hk h.byts ho, Ws h.byts, (aEC hk hj h.ty h.byts ho).trans h.at_⟩
def sO.one {j : Nat} {s' : Ps} (h : sO j s s') (hj : eV j = none) {k : FK} {o : Nat} (hk : k.fits) (ho : eV o = some k) : sO j s (pass1 r k s' o) := h.pass (os := [o]) hj hk aBi
def sO.voices {j : Nat} {s' : Ps} (h : sO j s s') (hj : eV j = none) : ∀ i, i ≤ 4 → sO j s (qV r s' i)
 | 0, _ => h
 | i + 1, hi => ((h.voices hj i I).pass hj (k := .bool) trivial (Tg I)).pass hj (k := .int 2) (show 2 ≤ 4 by decide) (Ud I)
def sO.all {j : Nat} (h : sO j s s) (hj : eV j = none) : sO j s (vE r s) := by
 have h8 : sO j s (Cl r s) := (((((((h.pass hj (k := .byte) trivial M3).pass hj (k := .word) trivial E4).pass hj (k := .bool) trivial F5).one hj (k := .long 8) (o := 121) (show 8 ≤ 8 by decide) M).one hj (k := .long 8) (o := 122) (show 8 ≤ 8 by decide) M).pass hj (k := .int 2) (show 2 ≤ 4 by decide) Vq).pass hj (k := .int 4) (show 4 ≤ 4 by decide) (show ∀ o ∈ [26], eV o = some (.int 4) by decide)).pass hj (k := .byte) trivial C5
 have h9 := (((h8.pass hj (r := r) (k := .byte) trivial B7).pass hj (r := r) (k := .byte) trivial Ic).pass hj (r := r) (k := .bool) (os := [97, 118]) trivial M).pass hj (r := r) (k := .int 2) (os := [98, 99, 116, 117]) (show 2 ≤ 4 by decide) M
 exact ((h9.voices hj 4 M).pass hj (k := .byte) trivial Ol).pass hj (k := .byte) trivial Uo
def aOH (r : Bool) (s : Ps) {j : Nat} (hj : eV j = none) (ht : vX eV s.1) (hb : bE s.2) : (vE r s).1[j]? = s.1[j]? := (sO.all ⟨ht, hb, rfl⟩ hj).at_
end
def vt (bs : AB) (p n : Nat) : Int := val (bs.drop p) n
def bo (bs : AB) (p : Nat) : Bool := vt bs p 1 == 1
def fC (k : FK) : AE → AA → AB → Nat → AA
 | [], L, _, _ => L
 | o :: os, L, bs, p => fC k os (aV L o [k.cell (vt bs p k.many)]) bs (p + k.many)
def pS {k : FK} (bs : AB) : ∀ {os : AE} {L : AA} {p q : Nat}, q = p + os.length * k.many → bI true k os (L, bs.drop p) = (fC k os L bs p, bs.drop q)
 | [], L, p, q, h => by
  have : q = p := by simpa using h
  subst this; rfl
 | o :: os, L, p, q, h => by
  show bI true k os (aV L o [k.cell (val (bs.drop p) k.many)], (bs.drop p).drop k.many) = _
  rw [bw, pS bs (q := q) (by rw [h, eF, j5]; omega)]
  rfl
def aE7 {o : Nat} (bs : AB) {L : AA} {p q : Nat} (h : q = p + 8) : pass1 true (.long 8) (L, bs.drop p) o = (fC (.long 8) [o] L bs p, bs.drop q) := by
 subst h
 show (aV L o _, (bs.drop p).drop 8) = _
 rw [bw]
 rfl
def C2 {k : FK} : ∀ {a b : AE} {L : AA} {bs : AB} {p : Nat}, fC k (a ++ b) L bs p = fC k b (fC k a L bs p) bs (p + a.length * k.many)
 | [], b, L, bs, p => by simp [fC]
 | o :: a, b, L, bs, p => by
  show fC k (a ++ b) _ bs (p + k.many) = fC k b (fC k a _ bs (p + k.many)) bs _
  rw [C2, eF, j5, show p + k.many + a.length * k.many = p + (a.length * k.many + k.many) by omega]
def aEX {k : FK} {X : AA} {n : Nat} (hX : X.length = n) : ∀ {os : AE} {Y : AA} {bs : AB} {p : Nat}, (∀ o ∈ os, o < Y.length) → fC k (os.map (n + ·)) (X ++ Y) bs p = X ++ fC k os Y bs p
 | [], _, _, _, _ => rfl
 | o :: os, Y, bs, p, h => by
  have ho := h o (.head _)
  show fC k (os.map (n + ·)) (aV (X ++ Y) (n + o) _) bs (p + k.many) = X ++ fC k os (aV Y o _) bs (p + k.many)
  rw [gE (n := o) (by rw [hX]) C9, aEX hX fun x hx => by rw [Wh ho]; exact h x (.tail _ hx)]
def D5 {k : FK} {Y : AA} : ∀ {os : AE} {X : AA} {bs : AB} {p : Nat}, (∀ o ∈ os, o < X.length) → fC k os (X ++ Y) bs p = fC k os X bs p ++ Y
 | [], _, _, _, _ => rfl
 | o :: os, X, bs, p, h => by
  have ho := h o (.head _)
  show fC k os (aV (X ++ Y) o _) bs (p + k.many) = fC k os (aV X o _) bs (p + k.many) ++ Y
  rw [mD C9, D5 fun x hx => by rw [Wh ho]; exact h x (.tail _ hx)]
def aGV (bs : AB) (p : Nat) : vt bs p 1 = bs.getD p 0 := by
 unfold vt val val
 rw [Cq]
 simp
def aCy {X Y : AA} {n a : Nat} (hX : X.length = a) (bs : AB) (p : Nat) (hb : p + n ≤ bs.length) : ∀ {l : AB}, l.length = n → ∀ i, i ≤ n →
  fC .byte (cT a i) (X ++ (l.map (.int .u8) ++ Y)) bs p = X ++ ((((bs.drop p).take i) ++ l.drop i).map (.int .u8) ++ Y)
 | l, hl, 0, _ => by simp [cT, fC]
 | l, hl, i + 1, hi => by
  have hi' : i < l.length := by omega
  have e : cT a (i + 1) = cT a i ++ [a + i] := by unfold cT; rw [ej, bz]; rfl
  rw [e, C2, aCy hX bs p hb hl i I, Js]
  show aV _ (a + i) [.int .u8 (vt bs (p + i * 1) 1)] = _
  rw [fq, aGV, gE (n := i) (by rw [hX]) aEt, mD aEt, vG .u8 (by simp only [bQ, fZ, dN]; omega)]
  have hlen : ((bs.drop p).take i).length = i := by simp only [fZ, dN]; omega
  have e2 : (((bs.drop p).take i) ++ l.drop i).set i (bs.getD p.succ.pred.succ.pred 0) = (((bs.drop p).take i) ++ l.drop i).set i (bs.getD p 0) := rfl
  have e3 : (((bs.drop p).take i) ++ l.drop i).set i (bs.getD (p + i) 0) = (bs.drop p).take (i + 1) ++ l.drop (i + 1) := by
   rw [List.set_append_right _ _ I, hlen, j2, gh hi', ak, fk, ee, eC]
   rw [fV, am I]
   rfl
  rw [e3]
def Uk {X Y : AA} {n a : Nat} (hX : X.length = a) {bs : AB} {p : Nat} (hb : p + n ≤ bs.length) {l : AB} (hl : l.length = n) : fC .byte (cT a n) (X ++ (l.map (.int .u8) ++ Y)) bs p = X ++ (((bs.drop p).take n).map (.int .u8) ++ Y) := by
 rw [aCy hX bs p hb hl n (bi _), show l.drop n = [] from d8 I, aw]
def vU (bs : AB) (p : Nat) : List Vc := [⟨bo bs p, vt bs (p + 1) 2, vt bs (p + 3) 2, vt bs (p + 5) 2⟩, ⟨bo bs (p + 7), vt bs (p + 8) 2, vt bs (p + 10) 2, vt bs (p + 12) 2⟩, ⟨bo bs (p + 14), vt bs (p + 15) 2, vt bs (p + 17) 2, vt bs (p + 19) 2⟩, ⟨bo bs (p + 21), vt bs (p + 22) 2, vt bs (p + 24) 2, vt bs (p + 26) 2⟩]
def Hf (bs : AB) : Bd := ⟨(bs.drop 77).take 48, bo bs 125, vt bs 127 2, vt bs 129 2, vU bs 135, vt bs 131 2, vt bs 133 2, bo bs 126⟩
def M2 (m : Mm) (bs : AB) : Mm := { m with
 cpu := ⟨⟨vt bs 0 1, vt bs 1 1, vt bs 2 1, vt bs 3 1, vt bs 4 1, vt bs 5 1, vt bs 6 1, vt bs 7 1, vt bs 14 2, vt bs 16 2⟩, bo bs 20, bo bs 21, bo bs 22, bo bs 23⟩,
 bk := { m.bk with last := vt bs 10 1, on := bo bs 24, mode := bo bs 25, low := vt bs 45 2, high := vt bs 47 2 },
 ck := ⟨vt bs 63 1, vt bs 64 1, vt bs 65 1, vt bs 49 2, vt bs 59 4, bo bs 27, bo bs 28, vt bs 72 1, vt bs 73 1, vt bs 74 1, vt bs 75 1, vt bs 76 1⟩,
 tm := ⟨vt bs 18 2, vt bs 66 1, vt bs 67 1, vt bs 68 1, bo bs 26⟩,
 pd := ⟨vt bs 11 1, vt bs 12 1⟩, pt := ⟨vt bs 69 1, vt bs 70 1, vt bs 71 1, vt bs 51 2, vt bs 53 2, vt bs 55 2⟩, cp := ⟨vt bs 13 1, vt bs 57 2⟩,
 flags := vt bs 8 1, lets := vt bs 9 1, steps := vt bs 29 8, cycles := vt bs 37 8 }
def yU (m : Mm) (bs : AB) : Mm := { M2 m bs with bd := Hf bs, work := (bs.drop 163).take 8192, high := (bs.drop 8355).take 127 }
section
variable {A : Ad} {acc : AH} {m : Mm} (h : dY m) (bs : AB)
def zC {k : FK} {os : AE} {m' : Mm} {p : Nat} (ho : (os.all fun o => Nat.blt o 49) = true) (h1 : fC k os (lJ m) bs p = lJ m') (h2 : cBd m.bd ++ iW A acc m = cBd m'.bd ++ iW A acc m') : fC k os (cMm A acc m) bs p = cMm A acc m' := by
 rw [vB, D5 (fun o hx => by rw [qJ]; exact ai (List.all_eq_true.1 ho o hx)), h1, h2, ← vB]
def dA (m : Mm) (bs : AB) (p : Nat) : Mm := { m with cpu := { m.cpu with r := { m.cpu.r with a := vt bs p 1, f := vt bs (p + 1) 1, b := vt bs (p + 2) 1, c := vt bs (p + 3) 1, d := vt bs (p + 4) 1, e := vt bs (p + 5) 1, h := vt bs (p + 6) 1, l := vt bs (p + 7) 1 } } }
def Gc (m : Mm) (bs : AB) (p : Nat) : Mm := { m with bk := { m.bk with last := vt bs p 1 }, pd := ⟨vt bs (p + 1) 1, vt bs (p + 2) 1⟩, cp := { m.cp with page := vt bs (p + 3) 1 } }
def dW (m : Mm) (bs : AB) (p : Nat) : Mm := { m with cpu := { m.cpu with r := { m.cpu.r with sp := vt bs p 2, pc := vt bs (p + 2) 2 } }, tm := { m.tm with cnt := vt bs (p + 4) 2 } }
def dB (m : Mm) (bs : AB) (p : Nat) : Mm := { m with cpu := { m.cpu with ime := bo bs p, soon := bo bs (p + 1), halt := bo bs (p + 2), stop := bo bs (p + 3) }, bk := { m.bk with on := bo bs (p + 4), mode := bo bs (p + 5) }, tm := { m.tm with over := bo bs (p + 6) }, ck := { m.ck with halt := bo bs (p + 7), carry := bo bs (p + 8) } }
def dI (m : Mm) (bs : AB) (p : Nat) : Mm := { m with bk := { m.bk with low := vt bs p 2, high := vt bs (p + 2) 2 }, ck := { m.ck with day := vt bs (p + 4) 2 }, pt := { m.pt with bits := vt bs (p + 6) 2, count := vt bs (p + 8) 2, sent := vt bs (p + 10) 2 }, cp := { m.cp with left := vt bs (p + 12) 2 } }
def dS (m : Mm) (bs : AB) (p : Nat) : Mm := { m with ck := { m.ck with sub := vt bs p 4 } }
def dC (m : Mm) (bs : AB) (p : Nat) : Mm := { m with ck := { m.ck with s := vt bs p 1, m := vt bs (p + 1) 1, h := vt bs (p + 2) 1 }, tm := { m.tm with tima := vt bs (p + 3) 1, tma := vt bs (p + 4) 1, tac := vt bs (p + 5) 1 }, pt := { m.pt with data := vt bs (p + 6) 1, control := vt bs (p + 7) 1, last := vt bs (p + 8) 1 } }
def dH (m : Mm) (bs : AB) (p : Nat) : Mm := { m with ck := { m.ck with h0 := vt bs p 1, h1 := vt bs (p + 1) 1, h2 := vt bs (p + 2) 1, h3 := vt bs (p + 3) 1, h4 := vt bs (p + 4) 1 } }
def aQ1 (p : Nat) : fC .byte [0, 1, 2, 3, 4, 5, 6, 7] (cMm A acc m) bs p = cMm A acc (dA m bs p) := zC bs rfl aO rfl
def aO7 (p : Nat) : fC .byte [21, 39, 40, 47] (cMm A acc m) bs p = cMm A acc (Gc m bs p) := zC bs rfl aO rfl
def aPX (p : Nat) : fC .word gW (cMm A acc m) bs p = cMm A acc (dW m bs p) := zC bs rfl aO rfl
def aIe (p : Nat) : fC .bool gB (cMm A acc m) bs p = cMm A acc (dB m bs p) := zC bs rfl aO rfl
def aH7 (p : Nat) : fC (.int 2) gI (cMm A acc m) bs p = cMm A acc (dI m bs p) := zC bs rfl aO rfl
def aOA (p : Nat) : fC (.int 4) [26] (cMm A acc m) bs p = cMm A acc (dS m bs p) := zC bs rfl aO rfl
def aIm (p : Nat) : fC .byte gC (cMm A acc m) bs p = cMm A acc (dC m bs p) := zC bs rfl aO rfl
def aOI (p : Nat) : fC .byte (cT 29 5) (cMm A acc m) bs p = cMm A acc (dH m bs p) := zC bs M aO rfl
include h
def aKi (p : Nat) : fC (.long 8) [121] (cMm A acc m) bs p = cMm A acc { m with steps := vt bs p 8 } := aCT h _
def aFC (p : Nat) : fC (.long 8) [122] (cMm A acc m) bs p = cMm A acc { m with cycles := vt bs p 8 } := aE3 h _
def aJT (p : Nat) : fC .byte [119] (cMm A acc m) bs p = cMm A acc { m with flags := vt bs p 1 } := Jv h _
def aQV (p : Nat) : fC .byte [120] (cMm A acc m) bs p = cMm A acc { m with lets := vt bs p 1 } := Lb h _
omit h in
def Ux {k : FK} {a b : AE} {L : AA} {p q : Nat} (hq : q = p + a.length * k.many) : fC k (a ++ b) L bs p = fC k b (fC k a L bs p) bs q := by rw [C2, hq]
def aNx : fC .byte gA (cMm A acc m) bs 0 = cMm A acc (Gc { dA m bs 0 with flags := vt bs 8 1, lets := vt bs 9 1 } bs 10) := by
 have e : gA = [0, 1, 2, 3, 4, 5, 6, 7] ++ ([119] ++ ([120] ++ [21, 39, 40, 47])) := rfl
 have h1 : dY (dA m bs 0) := ⟨h.bd, h.work, h.high⟩
 have h2 : dY { dA m bs 0 with flags := vt bs 8 1 } := ⟨h.bd, h.work, h.high⟩
 rw [e, Ux bs (q := 8) rfl, aQ1, Ux bs (q := 9) rfl, aJT h1, Ux bs (q := 10) rfl, aQV h2, aO7]
end
def qH (b : Bd) : AA := [.bool b.on, .int .i64 b.div, .int .i64 b.step] ++ (aN dK b.vs ++ [.int .i64 b.pitch, .int .i64 b.slide, .bool b.slides])
def aAZ {b : Bd} (h : b.Ln) : (qH b).length = 22 := by
 unfold qH
 rw [bQ, bQ, flat4, h.lV]; rfl
section
variable {A : Ad} {acc : AH} {m : Mm} (h : dY m) (bs : AB)
def Cf : cMm A acc m = (lJ m ++ m.bd.regs.map (.int .u8)) ++ (qH m.bd ++ iW A acc m) := by
 rw [vB]
 show lJ m ++ ((m.bd.regs.map (.int .u8) ++ qH m.bd) ++ iW A acc m) = _
 simp only [eC]
include h
def aIl {p : Nat} (hb : p + 48 ≤ bs.length) : fC .byte (cT 49 48) (cMm A acc m) bs p = cMm A acc { m with bd := { m.bd with regs := (bs.drop p).take 48 } } := by
 rw [Cf, eC, Uk qJ hb h.bd.lR, Cf, eC]
 rfl
def Si {k : FK} {os os' : AE} {b' : Bd} {p : Nat} (he : os = os'.map (97 + ·)) (ho : (os'.all fun o => Nat.blt o 22) = true) (h1 : fC k os' (qH m.bd) bs p = qH b') (hr : m.bd.regs = b'.regs) : fC k os (cMm A acc m) bs p = cMm A acc { m with bd := b' } := by
 have hlt : ∀ o ∈ os', o < 22 := fun o hx => ai (List.all_eq_true.1 ho o hx)
 rw [Cf, he, aEX (X := lJ m ++ m.bd.regs.map Z) (n := 97) (by rw [bQ, qJ, eD, h.bd.lR]) (fun o hx => by rw [bQ, aAZ h.bd]; have := hlt o hx; omega),
  D5 (fun o hx => by rw [aAZ h.bd]; exact hlt o hx), h1, Cf, hr]
 rfl
def Ge : ∃ a b c d, m.bd.vs = [a, b, c, d] := by
 have h4 := h.bd.lV
 match e : m.bd.vs, h4 with
 | [a, b, c, d], _ => exact ⟨a, b, c, d, rfl⟩
def aF9 (p : Nat) : fC .bool [97, 118] (cMm A acc m) bs p = cMm A acc { m with bd := { m.bd with on := bo bs p, slides := bo bs (p + 1) } } := by
 obtain ⟨a, b, c, d, e⟩ := Ge h
 refine Si h bs (os' := [0, 21]) U U ?_ U
 unfold qH; rw [e]; kernel_rfl
def aPE (p : Nat) : fC (.int 2) [98, 99, 116, 117] (cMm A acc m) bs p = cMm A acc { m with bd := { m.bd with div := vt bs p 2, step := vt bs (p + 2) 2, pitch := vt bs (p + 4) 2, slide := vt bs (p + 6) 2 } } := by
 obtain ⟨a, b, c, d, e⟩ := Ge h
 refine Si h bs (os' := [1, 2, 19, 20]) U U ?_ U
 unfold qH; rw [e]; kernel_rfl
def Ly (v : Vc) (x : Bool) : Vc := { v with on := x }
def aE4 (v : Vc) (x y z : Int) : Vc := { v with len := x, lev := y, wait := z }
def aQc {i : Nat} (hi : i < 4) (p : Nat) : fC .bool [100 + 4 * i] (cMm A acc m) bs p = cMm A acc { m with bd := m.bd.setV i (Ly (m.bd.v i) (bo bs p)) } := by
 obtain ⟨a, b, c, d, e⟩ := Ge h
 refine Si h bs (os' := [3 + 4 * i]) (by simp only [cu, dk]; congr 1; omega) aFs ?_ U
 unfold qH Bd.setV Bd.v; rw [e]
 rcases (show i = 0 ∨ i = 1 ∨ i = 2 ∨ i = 3 by omega) with rfl | rfl | rfl | rfl <;> kernel_rfl
def aIL {i : Nat} (hi : i < 4) (p : Nat) : fC (.int 2) [101 + 4 * i, 102 + 4 * i, 103 + 4 * i] (cMm A acc m) bs p = cMm A acc { m with bd := m.bd.setV i (aE4 (m.bd.v i) (vt bs p 2) (vt bs (p + 2) 2) (vt bs (p + 4) 2)) } := by
 obtain ⟨a, b, c, d, e⟩ := Ge h
 refine Si h bs (os' := [4 + 4 * i, 5 + 4 * i, 6 + 4 * i]) (by simp only [cu, dk]; congr 1; omega; congr 1; omega; congr 1; omega) aFs ?_ U
 unfold qH Bd.setV Bd.v; rw [e]
 rcases (show i = 0 ∨ i = 1 ∨ i = 2 ∨ i = 3 by omega) with rfl | rfl | rfl | rfl <;> kernel_rfl
def aLM {p : Nat} (hb : p + 8192 ≤ bs.length) : fC .byte (cT 135 8192) (cMm A acc m) bs p = cMm A acc { m with work := (bs.drop p).take 8192 } := by
 have e : ∀ m' : Mm, cMm A acc m' = (lJ m' ++ (cBd m'.bd ++ tT A m')) ++ (m'.work.map (.int .u8) ++ (m'.high.map (.int .u8) ++ [acc])) := fun m' => by
  rw [vB]; unfold iW; simp only [eC]
 rw [e, Uk (by rw [bQ, qJ, bQ, cBd_len h.bd, midM_len]) hb h.work, e]
 rfl
def aID {p : Nat} (hb : p + 127 ≤ bs.length) : fC .byte (cT 8327 127) (cMm A acc m) bs p = cMm A acc { m with high := (bs.drop p).take 127 } := by
 have e : ∀ m' : Mm, cMm A acc m' = (lJ m' ++ (cBd m'.bd ++ (tT A m' ++ m'.work.map (.int .u8)))) ++ (m'.high.map (.int .u8) ++ [acc]) := fun m' => by
  rw [vB]; unfold iW; simp only [eC]
 rw [e, Uk (by rw [bQ, qJ, bQ, cBd_len h.bd, bQ, midM_len, eD, h.work]) hb h.high, e]
 rfl
end
section
variable {A : Ad} {acc : AH} {m : Mm} (bs : AB)
def aGw (h : dY m) : Cl true (cMm A acc m, bs) = (cMm A acc (dC (dS (dI { dB (dW (Gc { dA m bs 0 with flags := vt bs 8 1, lets := vt bs 9 1 } bs 10) bs 14) bs 20 with steps := vt bs 29 8, cycles := vt bs 37 8 } bs 45) bs 59) bs 63), bs.drop 72) := by
 have h1 : dY (dB (dW (Gc { dA m bs 0 with flags := vt bs 8 1, lets := vt bs 9 1 } bs 10) bs 14) bs 20) := ⟨h.bd, h.work, h.high⟩
 have h2 : dY { dB (dW (Gc { dA m bs 0 with flags := vt bs 8 1, lets := vt bs 9 1 } bs 10) bs 14) bs 20 with steps := vt bs 29 8 } := ⟨h.bd, h.work, h.high⟩
 unfold Cl
 have e0 : (cMm A acc m, bs) = (cMm A acc m, bs.drop 0) := rfl
 rw [e0, pS bs (q := 14) rfl, aNx h, pS bs (q := 20) rfl, aPX, pS bs (q := 29) rfl, aIe, aE7 bs (q := 37) rfl, aKi h1, aE7 bs (q := 45) rfl, aFC h2, pS bs (q := 59) rfl, aH7,
  pS bs (q := 63) rfl, aOA, pS bs (q := 72) rfl, aIm]
def P3 (h : dY m) (p : Nat) : ∀ i, i ≤ 4 → ∃ b' : Bd, qV true (cMm A acc m, bs.drop p) i = (cMm A acc { m with bd := b' }, bs.drop (p + 7 * i)) ∧ b'.Ln ∧ b'.regs = m.bd.regs ∧ b'.on = m.bd.on ∧ b'.div = m.bd.div ∧ b'.step = m.bd.step ∧ b'.pitch = m.bd.pitch ∧ b'.slide = m.bd.slide ∧ b'.slides = m.bd.slides ∧ b'.vs = (vU bs p).take i ++ m.bd.vs.drop i
 | 0, _ => ⟨m.bd, rfl, h.bd, rfl, rfl, rfl, rfl, rfl, rfl, rfl, rfl⟩
 | i + 1, hi => by
  obtain ⟨b', e, hl, g1, g2, g3, g4, g5, g6, g7, g8⟩ := P3 h p i I
  have hi4 : i < 4 := by omega
  have h1 : dY { m with bd := b' } := ⟨hl, h.work, h.high⟩
  have h2 : dY { m with bd := b'.setV i (Ly (b'.v i) (bo bs (p + 7 * i))) } := ⟨⟨hl.lR, hl.bR, by show (b'.vs.set i _).length = 4; rw [cy]; exact hl.lV⟩, h.work, h.high⟩
  refine ⟨(b'.setV i (Ly (b'.v i) (bo bs (p + 7 * i)))).setV i (aE4 ((b'.setV i (Ly (b'.v i) (bo bs (p + 7 * i)))).v i) (vt bs (p + 7 * i + 1) 2) (vt bs (p + 7 * i + 3) 2) (vt bs (p + 7 * i + 5) 2)), ?_, ⟨hl.lR, hl.bR, by show ((b'.vs.set i _).set i _).length = 4; rw [cy, cy]; exact hl.lV⟩, g1, g2, g3, g4, g5, g6, g7, ?_⟩
  ·show bI true (.int 2) _ (bI true .bool _ (qV true (cMm A acc m, bs.drop p) i)) = _
   rw [e, pS bs (q := p + 7 * i + 1) rfl, aQc h1 bs hi4, pS bs (q := p + 7 * (i + 1)) (by show _ = p + 7 * i + 1 + 6; omega), aIL h2 bs hi4]
  ·rw [v_set hl hi4, setV_setV]
   show b'.vs.set i _ = _
   rw [g8]
   have hv := h.bd.lV
   have ht : ((vU bs p).take i).length = i := by rw [fZ]; show min i 4 = i; omega
   rw [List.set_append_right _ _ I, ht, j2, gh I, ak, fk]
   have key : (vU bs p)[i]? = some ⟨bo bs (p + 7 * i), vt bs (p + 7 * i + 1) 2, vt bs (p + 7 * i + 3) 2, vt bs (p + 7 * i + 5) 2⟩ := by
    rcases (show i = 0 ∨ i = 1 ∨ i = 2 ∨ i = 3 by omega) with rfl | rfl | rfl | rfl <;> rfl
   rw [key, eC]
   rfl
def aIT (hby : bE bs) (h : dY m) {p : Nat} (hb : p + 86 ≤ bs.length) : uD true (cMm A acc m, bs.drop p) = (cMm A acc { m with bd := ⟨(bs.drop p).take 48, bo bs (p + 48), vt bs (p + 50) 2, vt bs (p + 52) 2, vU bs (p + 58), vt bs (p + 54) 2, vt bs (p + 56) 2, bo bs (p + 49)⟩ }, bs.drop (p + 86)) := by
 have h1 : dY { m with bd := { m.bd with regs := (bs.drop p).take 48 } } := ⟨⟨by show ((bs.drop p).take 48).length = 48; rw [fZ, dN]; omega, Fq (uP hby p) 48, h.bd.lV⟩, h.work, h.high⟩
 have h2 : dY { m with bd := { m.bd with regs := (bs.drop p).take 48, on := bo bs (p + 48), slides := bo bs (p + 48 + 1) } } := ⟨⟨h1.bd.lR, h1.bd.bR, h.bd.lV⟩, h.work, h.high⟩
 have h3 : dY { m with bd := { m.bd with regs := (bs.drop p).take 48, on := bo bs (p + 48), slides := bo bs (p + 48 + 1), div := vt bs (p + 50) 2, step := vt bs (p + 50 + 2) 2, pitch := vt bs (p + 50 + 4) 2, slide := vt bs (p + 50 + 6) 2 } } := ⟨⟨h1.bd.lR, h1.bd.bR, h.bd.lV⟩, h.work, h.high⟩
 unfold uD
 rw [pS bs (q := p + 48) rfl, aIl h bs I, pS bs (q := p + 50) rfl, aF9 h1, pS bs (q := p + 58) rfl, aPE h2]
 obtain ⟨b', e, hl, g1, g2, g3, g4, g5, g6, g7, g8⟩ := P3 (A := A) (acc := acc) bs h3 (p + 58) 4 (bi _)
 rw [e]
 have e4 : (vU bs (p + 58)).take 4 ++ m.bd.vs.drop 4 = vU bs (p + 58) := by rw [d8 (by rw [h.bd.lV]; exact bi _), aw]; rfl
 obtain ⟨r, o, d, s, v, pi, sl, ss⟩ := b'
 dsimp only at g1 g2 g3 g4 g5 g6 g7 g8
 rw [e4] at g8
 subst g1 g2 g3 g4 g5 g6 g7 g8
 rfl
def aCZ (hby : bE bs) (h : dY m) (hb : 8482 ≤ bs.length) : vE true (cMm A acc m, bs) = (cMm A acc (yU m bs), bs.drop 8482) := by
 obtain ⟨m8, e8⟩ : ∃ m8, m8 = dC (dS (dI { dB (dW (Gc { dA m bs 0 with flags := vt bs 8 1, lets := vt bs 9 1 } bs 10) bs 14) bs 20 with steps := vt bs 29 8, cycles := vt bs 37 8 } bs 45) bs 59) bs 63 := ⟨_, rfl⟩
 have h8 : dY m8 := e8 ▸ ⟨h.bd, h.work, h.high⟩
 have h9 : dY (dH m8 bs 72) := ⟨h8.bd, h8.work, h8.high⟩
 have hB : dY { dH m8 bs 72 with bd := Hf bs } := ⟨⟨by show ((bs.drop 77).take 48).length = 48; rw [fZ, dN]; omega, Fq (uP hby 77) 48, rfl⟩, h8.work, h8.high⟩
 have hC : dY { dH m8 bs 72 with bd := Hf bs, work := (bs.drop 163).take 8192 } := ⟨hB.bd, by show ((bs.drop 163).take 8192).length = 8192; rw [fZ, dN]; omega, h8.high⟩
 unfold vE
 rw [aGw bs h, ← e8, pS bs (q := 77) rfl, aOI, aIT bs hby h9 (p := 77) I]
 show bI true .byte (cT 8327 127) (bI true .byte (cT 135 8192) (cMm A acc { dH m8 bs 72 with bd := Hf bs }, bs.drop 163)) = _
 rw [pS bs (q := 8355) (by rw [Js]; rfl), aLM hB bs I, pS bs (q := 8482) (by rw [Js]; rfl), aID hC bs I, e8]
 rfl
end
def iE (k : FK) (os : AE) (L : AA) : AB := os.flatMap fun o => dX k.many (FK.at L o)
def Ik {k : FK} {L : AA} : ∀ {os : AE} {bs : AB}, bI false k os (L, bs) = (L, bs ++ iE k os L)
 | [], bs => by simp [bI, iE]
 | o :: os, bs => by
  show bI false k os (L, bs ++ dX k.many (FK.at L o)) = _
  rw [Ik]
  simp [iE]
def uR (L : AA) : Nat → AB
 | 0 => []
 | i + 1 => uR L i ++ (iE .bool [100 + 4 * i] L ++ iE (.int 2) [101 + 4 * i, 102 + 4 * i, 103 + 4 * i] L)
def aCO {L : AA} {bs : AB} : ∀ i, qV false (L, bs) i = (L, bs ++ uR L i)
 | 0 => by simp [qV, uR]
 | i + 1 => by
  show bI false (.int 2) _ (bI false .bool _ (qV false (L, bs) i)) = _
  rw [aCO i, Ik, Ik]
  simp [uR]
def Mq (L : AA) : AB := iE .byte (cT 49 48) L ++ (iE .bool [97, 118] L ++ (iE (.int 2) [98, 99, 116, 117] L ++ uR L 4))
def Tk (L : AA) : AB := iE .byte gA L ++ (iE .word gW L ++ (iE .bool gB L ++ (dX 8 (FK.at L 121) ++ (dX 8 (FK.at L 122) ++ (iE (.int 2) gI L ++ (iE (.int 4) [26] L ++ iE .byte gC L))))))
def Tt (L : AA) : AB := Tk L ++ (iE .byte (cT 29 5) L ++ (Mq L ++ (iE .byte (cT 135 8192) L ++ iE .byte (cT 8327 127) L)))
def aGL {k : FK} {os : AE} (s : Ps) : bI false k os s = (s.1, s.2 ++ iE k os s.1) := Ik
def aQ3 {k : FK} {o : Nat} (s : Ps) : pass1 false k s o = (s.1, s.2 ++ dX k.many (FK.at s.1 o)) := rfl
def aJq {i : Nat} (s : Ps) : qV false s i = (s.1, s.2 ++ uR s.1 i) := aCO i
def aAQ {α β : Type} {f g : α → List β} : ∀ {l : List α}, (∀ i ∈ l, f i = g i) → l.flatMap f = l.flatMap g
 | [], _ => rfl
 | a :: l, h => by rw [fm, fm, h a (.head _), aAQ fun i hi => h i (.tail _ hi)]
def aCt {α β : Type} (f : α → β) : ∀ l : List α, (l.flatMap fun i => [f i]) = l.map f
 | [] => rfl
 | a :: l => by rw [fm, aCt f l]; rfl
def N7 {L : AA} {bs : AB} : vE false (L, bs) = (L, bs ++ Tt L) := by
 unfold vE uD Cl Tt Tk Mq
 simp only [aGL, aQ3, aJq, eC, FK.many]
def mJ {L : AA} {o : Nat} {k : AM} {x : Int} (h : L[o]? = some (.int k x)) : FK.at L o = x := by unfold FK.at; rw [h]
def Fm {L : AA} {o : Nat} {b : Bool} (h : L[o]? = some (.bool b)) : FK.at L o = gV b := by unfold FK.at; rw [h]; rfl
def aNT {x : Int} (h : 0 ≤ x ∧ x < 256) : dX 1 x = [x] := by
 show [x / 256 ^ 0 % 256] = [x]
 rw [show x / 256 ^ 0 % 256 = x by show x / 1 % 256 = x; omega]
def Rt {X Y : AA} {l : AB} {a n : Nat} (hX : X.length = a) (hl : l.length = n) (hb : bE l) : iE .byte (cT a n) (X ++ (l.map (.int .u8) ++ Y)) = l := by
 have e1 : iE .byte (cT a n) (X ++ (l.map (.int .u8) ++ Y)) = (List.range n).flatMap fun i => [l.getD i 0] := by
  unfold iE cT
  rw [List.flatMap_map]
  have : ∀ i ∈ List.range n, dX FK.byte.many (FK.at (X ++ (l.map (.int .u8) ++ Y)) (a + i)) = [l.getD i 0] := fun i hi => by
   rw [mJ (k := .u8) (iH (n := i) (by rw [hX]) (lM (gJ (by rw [hl]; exact List.mem_range.1 hi))))]
   exact aNT (hb.get i)
  exact aAQ this
 rw [e1]
 subst hl
 refine List.ext_getElem? fun i => ?_
 rw [aCt, df]
 by_cases hi : i < l.length
 ·rw [ig hi, am hi]
  simp [fV, am hi]
 ·rw [ea (by simpa using hi), ea I]; rfl
def Hu (v : Vc) : AB := dX 1 (gV v.on) ++ (dX 2 v.len ++ (dX 2 v.lev ++ dX 2 v.wait))
def vA (b : Bd) : AB := b.regs ++ ((dX 1 (gV b.on) ++ dX 1 (gV b.slides)) ++ ((dX 2 b.div ++ (dX 2 b.step ++ (dX 2 b.pitch ++ dX 2 b.slide))) ++ b.vs.flatMap Hu))
def eI (m : Mm) (t : AB) : AB :=
 aY m.cpu.r.a 0 :: aY m.cpu.r.f 0 :: aY m.cpu.r.b 0 :: aY m.cpu.r.c 0 :: aY m.cpu.r.d 0 :: aY m.cpu.r.e 0 :: aY m.cpu.r.h 0 :: aY m.cpu.r.l 0 :: aY m.flags 0 :: aY m.lets 0 :: aY m.bk.last 0 :: aY m.pd.sel 0 :: aY m.pd.down 0 :: aY m.cp.page 0 ::
 aY m.cpu.r.sp 0 :: aY m.cpu.r.sp 1 :: aY m.cpu.r.pc 0 :: aY m.cpu.r.pc 1 :: aY m.tm.cnt 0 :: aY m.tm.cnt 1 ::
 aY (gV m.cpu.ime) 0 :: aY (gV m.cpu.soon) 0 :: aY (gV m.cpu.halt) 0 :: aY (gV m.cpu.stop) 0 :: aY (gV m.bk.on) 0 :: aY (gV m.bk.mode) 0 :: aY (gV m.tm.over) 0 :: aY (gV m.ck.halt) 0 :: aY (gV m.ck.carry) 0 ::
 (dX 8 m.steps ++ (dX 8 m.cycles ++
 (aY m.bk.low 0 :: aY m.bk.low 1 :: aY m.bk.high 0 :: aY m.bk.high 1 :: aY m.ck.day 0 :: aY m.ck.day 1 :: aY m.pt.bits 0 :: aY m.pt.bits 1 :: aY m.pt.count 0 :: aY m.pt.count 1 :: aY m.pt.sent 0 :: aY m.pt.sent 1 :: aY m.cp.left 0 :: aY m.cp.left 1 ::
 aY m.ck.sub 0 :: aY m.ck.sub 1 :: aY m.ck.sub 2 :: aY m.ck.sub 3 ::
 aY m.ck.s 0 :: aY m.ck.m 0 :: aY m.ck.h 0 :: aY m.tm.tima 0 :: aY m.tm.tma 0 :: aY m.tm.tac 0 :: aY m.pt.data 0 :: aY m.pt.control 0 :: aY m.pt.last 0 ::
 aY m.ck.h0 0 :: aY m.ck.h1 0 :: aY m.ck.h2 0 :: aY m.ck.h3 0 :: aY m.ck.h4 0 :: t)))
def oM (m : Mm) : AB := eI m (vA m.bd ++ (m.work ++ m.high))
section
variable {A : Ad} {acc : AH} {m : Mm}
def aKE : iE .word gW (cMm A acc m) = [aY m.cpu.r.sp 0, aY m.cpu.r.sp 1, aY m.cpu.r.pc 0, aY m.cpu.r.pc 1, aY m.tm.cnt 0, aY m.tm.cnt 1] := by kernel_rfl
def aMW : iE .bool gB (cMm A acc m) = [aY (gV m.cpu.ime) 0, aY (gV m.cpu.soon) 0, aY (gV m.cpu.halt) 0, aY (gV m.cpu.stop) 0, aY (gV m.bk.on) 0, aY (gV m.bk.mode) 0, aY (gV m.tm.over) 0, aY (gV m.ck.halt) 0, aY (gV m.ck.carry) 0] := by kernel_rfl
def aLu : iE (.int 2) gI (cMm A acc m) = [aY m.bk.low 0, aY m.bk.low 1, aY m.bk.high 0, aY m.bk.high 1, aY m.ck.day 0, aY m.ck.day 1, aY m.pt.bits 0, aY m.pt.bits 1, aY m.pt.count 0, aY m.pt.count 1, aY m.pt.sent 0, aY m.pt.sent 1, aY m.cp.left 0, aY m.cp.left 1] := by kernel_rfl
def aLm : iE (.int 4) [26] (cMm A acc m) = [aY m.ck.sub 0, aY m.ck.sub 1, aY m.ck.sub 2, aY m.ck.sub 3] := by kernel_rfl
def aJw : iE .byte gC (cMm A acc m) = [aY m.ck.s 0, aY m.ck.m 0, aY m.ck.h 0, aY m.tm.tima 0, aY m.tm.tma 0, aY m.tm.tac 0, aY m.pt.data 0, aY m.pt.control 0, aY m.pt.last 0] := by kernel_rfl
def aF3 : iE .byte (cT 29 5) (cMm A acc m) = [aY m.ck.h0 0, aY m.ck.h1 0, aY m.ck.h2 0, aY m.ck.h3 0, aY m.ck.h4 0] := by kernel_rfl
def aIW (h : dY m) : iE .byte gA (cMm A acc m) = [aY m.cpu.r.a 0, aY m.cpu.r.f 0, aY m.cpu.r.b 0, aY m.cpu.r.c 0, aY m.cpu.r.d 0, aY m.cpu.r.e 0, aY m.cpu.r.h 0, aY m.cpu.r.l 0, aY m.flags 0, aY m.lets 0, aY m.bk.last 0, aY m.pd.sel 0, aY m.pd.down 0, aY m.cp.page 0] := by
 have e1 : FK.at (cMm A acc m) 119 = m.flags := mJ (get_mid h (j := 0) rfl)
 have e2 : FK.at (cMm A acc m) 120 = m.lets := mJ (get_mid h (j := 1) rfl)
 have key : iE .byte gA (cMm A acc m) = [aY m.cpu.r.a 0, aY m.cpu.r.f 0, aY m.cpu.r.b 0, aY m.cpu.r.c 0, aY m.cpu.r.d 0, aY m.cpu.r.e 0, aY m.cpu.r.h 0, aY m.cpu.r.l 0, aY (FK.at (cMm A acc m) 119) 0, aY (FK.at (cMm A acc m) 120) 0, aY m.bk.last 0, aY m.pd.sel 0, aY m.pd.down 0, aY m.cp.page 0] := by kernel_rfl
 rw [key, e1, e2]
def aLY (h : dY m) : FK.at (cMm A acc m) 121 = m.steps := mJ (get_mid h (j := 2) rfl)
def aG4 (h : dY m) : FK.at (cMm A acc m) 122 = m.cycles := mJ (get_mid h (j := 3) rfl)
def aPN (h : dY m) (t : AB) : Tk (cMm A acc m) ++ (iE .byte (cT 29 5) (cMm A acc m) ++ t) = eI m t := by
 unfold Tk
 rw [aIW h, aKE, aMW, aLY h, aG4 h, aLu, aLm, aJw, aF3]
 unfold eI
 simp only [eC, ct, bq]
def aEq (h : dY m) {j : Nat} {v : AH} (hv : (qH m.bd)[j]? = some v) : (cMm A acc m)[97 + j]? = some v := by
 rw [Cf]
 exact iH (n := j) (by rw [bQ, qJ, eD, h.bd.lR]) (lM hv)
def aNI (h : dY m) : Mq (cMm A acc m) = vA m.bd := by
 obtain ⟨a, b, c, d, e⟩ := Ge h
 have e1 : iE .byte (cT 49 48) (cMm A acc m) = m.bd.regs := by rw [Cf, eC]; exact Rt qJ h.bd.lR h.bd.bR
 have hE : qH m.bd = [.bool m.bd.on, .int .i64 m.bd.div, .int .i64 m.bd.step] ++ ((dK a ++ (dK b ++ (dK c ++ (dK d ++ [])))) ++ [.int .i64 m.bd.pitch, .int .i64 m.bd.slide, .bool m.bd.slides]) := by unfold qH; rw [e]; rfl
 have g : ∀ j v, ([.bool m.bd.on, .int .i64 m.bd.div, .int .i64 m.bd.step] ++ ((dK a ++ (dK b ++ (dK c ++ (dK d ++ [])))) ++ [.int .i64 m.bd.pitch, .int .i64 m.bd.slide, .bool m.bd.slides]) : AA)[j]? = some v → (cMm A acc m)[97 + j]? = some v := fun j v hv => aEq h (by rw [hE]; exact hv)
 have a0 := Fm (g 0 _ rfl); have a1 := mJ (g 1 _ rfl); have a2 := mJ (g 2 _ rfl)
 have a3 := Fm (g 3 _ rfl); have a4 := mJ (g 4 _ rfl); have a5 := mJ (g 5 _ rfl); have a6 := mJ (g 6 _ rfl)
 have a7 := Fm (g 7 _ rfl); have a8 := mJ (g 8 _ rfl); have a9 := mJ (g 9 _ rfl); have a10 := mJ (g 10 _ rfl)
 have a11 := Fm (g 11 _ rfl); have a12 := mJ (g 12 _ rfl); have a13 := mJ (g 13 _ rfl); have a14 := mJ (g 14 _ rfl)
 have a15 := Fm (g 15 _ rfl); have a16 := mJ (g 16 _ rfl); have a17 := mJ (g 17 _ rfl); have a18 := mJ (g 18 _ rfl)
 have a19 := mJ (g 19 _ rfl); have a20 := mJ (g 20 _ rfl); have a21 := Fm (g 21 _ rfl)
 unfold Mq vA uR uR uR uR uR
 rw [e1, e]
 simp only [iE, fm, List.flatMap_nil, aw, bq, FK.many, Nat.mul_zero, gr, Nat.reduceMul, Nat.reduceAdd] at a0 a1 a2 a3 a4 a5 a6 a7 a8 a9 a10 a11 a12 a13 a14 a15 a16 a17 a18 a19 a20 a21 ⊢
 rw [a0, a1, a2, a3, a4, a5, a6, a7, a8, a9, a10, a11, a12, a13, a14, a15, a16, a17, a18, a19, a20, a21]
 simp only [Hu, eC]
def aGK (h : m.Wf) : Tt (cMm A acc m) = oM m := by
 unfold Tt oM
 have e1 : iE .byte (cT 135 8192) (cMm A acc m) = m.work := by
  have e : cMm A acc m = (lJ m ++ (cBd m.bd ++ tT A m)) ++ (m.work.map (.int .u8) ++ (m.high.map (.int .u8) ++ [acc])) := by rw [vB]; unfold iW; simp only [eC]
  rw [e]; exact Rt (by rw [bQ, qJ, bQ, cBd_len h.ln.bd, midM_len]) h.lWork h.bWork
 have e2 : iE .byte (cT 8327 127) (cMm A acc m) = m.high := by
  have e : cMm A acc m = (lJ m ++ (cBd m.bd ++ (tT A m ++ m.work.map (.int .u8)))) ++ (m.high.map (.int .u8) ++ [acc]) := by rw [vB]; unfold iW; simp only [eC]
  rw [e]; exact Rt (by rw [bQ, qJ, bQ, cBd_len h.ln.bd, bQ, midM_len, eD, h.lWork]) h.lHigh h.bHigh
 rw [aNI h.ln, e1, e2]
 exact aPN h.ln _
end
def sM {bs : AB} (h : bE bs) (p n : Nat) : 0 ≤ vt bs p n ∧ vt bs p n < 256 ^ n := val_ok (uP h p) n
def aFX {A B : AB} {j : Nat} (h : j < A.length) : (A ++ B).getD j 0 = A.getD j 0 := by
 rw [fV, dp h, ← fV]
def E7 {bs : AB} {p n : Nat} {x : Int} {t : AB} (h : bs.drop p = dX n x ++ t) : vt bs p n = x % 256 ^ n := by
 unfold vt
 rw [h, S2 n (m := dX n x) fun j hj => aFX (by rw [Gb]; exact hj)]
 exact aAu x n n (bi _)
section
variable {m : Mm} {t : AB}
def Ip (p k : Nat) (x : Int) (h : (eI m t).drop p = dX k x ++ (eI m t).drop (p + k)) : vt (eI m t) p k = x % 256 ^ k := E7 h
def jG {p : Nat} {x : Int} (hx : 0 ≤ x ∧ x < 256) (h : (eI m t).drop p = dX 1 x ++ (eI m t).drop (p + 1)) : vt (eI m t) p 1 = x := by rw [Ip p 1 x h]; show x % 256 = x; omega
def wK {p : Nat} {x : Int} (hx : 0 ≤ x ∧ x < 65536) (h : (eI m t).drop p = dX 2 x ++ (eI m t).drop (p + 2)) : vt (eI m t) p 2 = x := by rw [Ip p 2 x h]; show x % 65536 = x; omega
def aBN {x : Int} {b : Bool} (h : x = gV b) : (x == 1) = b := by subst h; cases b <;> rfl
def xG {p : Nat} {b : Bool} (h : (eI m t).drop p = dX 1 (gV b) ++ (eI m t).drop (p + 1)) : bo (eI m t) p = b := aBN (jG (by cases b <;> decide) h)
def aNM (h : m.Wf) (hr : m.cpu.r.Ok) (hd : 0 ≤ m.ck.day ∧ m.ck.day < 65536) (n : Mm) : M2 n (eI m t) = { n with cpu := m.cpu, bk := { n.bk with last := m.bk.last, on := m.bk.on, mode := m.bk.mode, low := m.bk.low, high := m.bk.high }, ck := m.ck, tm := m.tm, pd := m.pd, pt := m.pt, cp := m.cp, flags := m.flags, lets := m.lets, steps := m.steps, cycles := m.cycles } := by
 have hb := h.ck.byH
 have k : ∀ x ∈ m.ck.held, 0 ≤ x ∧ x < 256 := hb
 have g0 := k m.ck.h0 vY; have g1 := k m.ck.h1 vY; have g2 := k m.ck.h2 vY; have g3 := k m.ck.h3 vY; have g4 := k m.ck.h4 vY
 have s8 : vt (eI m t) 29 8 = m.steps := by rw [Ip 29 8 m.steps aO]; have := h.steps; show m.steps % 18446744073709551616 = _; omega
 have s9 : vt (eI m t) 37 8 = m.cycles := by rw [Ip 37 8 m.cycles aO]; have := h.cycles; show m.cycles % 18446744073709551616 = _; omega
 have s4 : vt (eI m t) 59 4 = m.ck.sub := by rw [Ip 59 4 m.ck.sub aO]; have := h.ck.sub; show m.ck.sub % 4294967296 = _; omega
 unfold M2
 rw [jG (p := 0) hr.a aO, jG (p := 1) hr.f aO, jG (p := 2) hr.b aO, jG (p := 3) hr.c aO, jG (p := 4) hr.d aO, jG (p := 5) hr.e aO, jG (p := 6) hr.h aO, jG (p := 7) hr.l aO,
  wK (p := 14) hr.sp aO, wK (p := 16) hr.pc aO, xG (p := 20) (b := m.cpu.ime) aO, xG (p := 21) (b := m.cpu.soon) aO, xG (p := 22) (b := m.cpu.halt) aO, xG (p := 23) (b := m.cpu.stop) aO,
  jG (p := 10) h.bk.last aO, xG (p := 24) (b := m.bk.on) aO, xG (p := 25) (b := m.bk.mode) aO, wK (p := 45) h.bk.low aO, wK (p := 47) h.bk.high aO,
  jG (p := 63) h.ck.s aO, jG (p := 64) h.ck.m aO, jG (p := 65) h.ck.h aO, wK (p := 49) hd aO, s4, xG (p := 27) (b := m.ck.halt) aO, xG (p := 28) (b := m.ck.carry) aO,
  jG (p := 72) g0 aO, jG (p := 73) g1 aO, jG (p := 74) g2 aO, jG (p := 75) g3 aO, jG (p := 76) g4 aO,
  wK (p := 18) h.tm.cnt aO, jG (p := 66) h.tm.tima aO, jG (p := 67) h.tm.tma aO, jG (p := 68) h.tm.tac aO, xG (p := 26) (b := m.tm.over) aO,
  jG (p := 11) h.pd.sel aO, jG (p := 12) h.pd.down aO, jG (p := 69) h.pt.data aO, jG (p := 70) h.pt.control aO, jG (p := 71) h.pt.last aO, wK (p := 51) h.pt.bits aO, wK (p := 53) h.pt.count aO, wK (p := 55) h.pt.sent aO,
  jG (p := 13) h.cp.page aO, wK (p := 57) h.cp.left aO, jG (p := 8) h.flags aO, jG (p := 9) h.lets aO, s8, s9]
def Ug : (eI m t).drop 77 = t := by kernel_rfl
def aLz (j k : Nat) : vt (eI m t) (77 + j) k = vt t j k := by unfold vt; rw [← bw, Ug]
end
section
variable {b : Bd} (h : b.Wf) (t : AB)
def S3 (h : b.Ln) : (vA b).length = 86 := by
 have h4 := h.lV
 unfold vA
 have : ∀ l : List Vc, (l.flatMap Hu).length = 7 * l.length := fun l => by
  induction l with
  | nil => rfl
  | cons v l ih => rw [fm, bQ, ih, eF]; show 7 + _ = _; omega
 simp only [bQ, this, Gb, h4, h.lR]
include h
def aLU {m : Mm} (X : AB) (e : m.bd = b) : Hf (eI m (vA b ++ X)) = b := by
 obtain ⟨R, on, div, step, vs, pitch, slide, slides⟩ := b
 have hR : R.length = 48 := h.lR
 have h4 : vs.length = 4 := h.lV
 obtain ⟨v0, v1, v2, v3, rfl⟩ : ∃ a b c d, vs = [a, b, c, d] := by
  match vs, h4 with
  | [a, b, c, d], _ => exact ⟨a, b, c, d, rfl⟩
 have o0 := h.oV v0 aL; have o1 := h.oV v1 aL; have o2 := h.oV v2 aL; have o3 := h.oV v3 aL
 obtain ⟨E, hE⟩ : ∃ E, E = ((dX 1 (gV on) ++ dX 1 (gV slides)) ++ ((dX 2 div ++ (dX 2 step ++ (dX 2 pitch ++ dX 2 slide))) ++ ([v0, v1, v2, v3].flatMap Hu))) ++ X := ⟨_, rfl⟩
 have e1 : vA ⟨R, on, div, step, [v0, v1, v2, v3], pitch, slide, slides⟩ ++ X = R ++ E := by rw [hE]; unfold vA; simp only [eC]
 rw [e1]
 have d48 : ∀ j k, vt (eI m (R ++ E)) (125 + j) k = vt E j k := fun j k => by
  rw [show 125 + j = 77 + (48 + j) by omega, aLz]; unfold vt; rw [← bw, ez hR]
 have b48 : ∀ j, bo (eI m (R ++ E)) (125 + j) = bo E j := fun j => by unfold bo; rw [d48]
 have w : ∀ {j : Nat} {x : Int} (T : AB), (0 ≤ x ∧ x < 65536) → E.drop j = dX 2 x ++ T → vt E j 2 = x := fun T hx he => by rw [E7 he]; show _ % 65536 = _; omega
 have z : ∀ {j : Nat} {x : Bool} (T : AB), E.drop j = dX 1 (gV x) ++ T → bo E j = x := fun {j} {x} T he => aBN (by rw [E7 he]; cases x <;> rfl)
 unfold Hf vU
 have r : ((eI m (R ++ E)).drop 77).take 48 = R := by rw [Ug, fy hR]
 rw [r]
 have f := fun j k => d48 j k
 rw [show bo (eI m (R ++ E)) 125 = on from (b48 0).trans (z (E.drop 1) lG), show bo (eI m (R ++ E)) 126 = slides from (b48 1).trans (z (E.drop 2) lG),
  show vt (eI m (R ++ E)) 127 2 = div from (d48 2 2).trans (w (E.drop 4) h.div lG), show vt (eI m (R ++ E)) 129 2 = step from (d48 4 2).trans (w (E.drop 6) h.step lG),
  show vt (eI m (R ++ E)) 131 2 = pitch from (d48 6 2).trans (w (E.drop 8) h.pitch lG), show vt (eI m (R ++ E)) 133 2 = slide from (d48 8 2).trans (w (E.drop 10) h.slide lG),
  show bo (eI m (R ++ E)) 135 = v0.on from (b48 10).trans (z (E.drop 11) lG), show vt (eI m (R ++ E)) (135 + 1) 2 = v0.len from (d48 11 2).trans (w (E.drop 13) o0.len lG), show vt (eI m (R ++ E)) (135 + 3) 2 = v0.lev from (d48 13 2).trans (w (E.drop 15) o0.lev lG), show vt (eI m (R ++ E)) (135 + 5) 2 = v0.wait from (d48 15 2).trans (w (E.drop 17) o0.wait lG),
  show bo (eI m (R ++ E)) (135 + 7) = v1.on from (b48 17).trans (z (E.drop 18) lG), show vt (eI m (R ++ E)) (135 + 8) 2 = v1.len from (d48 18 2).trans (w (E.drop 20) o1.len lG), show vt (eI m (R ++ E)) (135 + 10) 2 = v1.lev from (d48 20 2).trans (w (E.drop 22) o1.lev lG), show vt (eI m (R ++ E)) (135 + 12) 2 = v1.wait from (d48 22 2).trans (w (E.drop 24) o1.wait lG),
  show bo (eI m (R ++ E)) (135 + 14) = v2.on from (b48 24).trans (z (E.drop 25) lG), show vt (eI m (R ++ E)) (135 + 15) 2 = v2.len from (d48 25 2).trans (w (E.drop 27) o2.len lG), show vt (eI m (R ++ E)) (135 + 17) 2 = v2.lev from (d48 27 2).trans (w (E.drop 29) o2.lev lG), show vt (eI m (R ++ E)) (135 + 19) 2 = v2.wait from (d48 29 2).trans (w (E.drop 31) o2.wait lG),
  show bo (eI m (R ++ E)) (135 + 21) = v3.on from (b48 31).trans (z (E.drop 32) lG), show vt (eI m (R ++ E)) (135 + 22) 2 = v3.len from (d48 32 2).trans (w (E.drop 34) o3.len lG), show vt (eI m (R ++ E)) (135 + 24) 2 = v3.lev from (d48 34 2).trans (w (E.drop 36) o3.lev lG), show vt (eI m (R ++ E)) (135 + 26) 2 = v3.wait from (d48 36 2).trans (w (E.drop 38) o3.wait lG)]
end
section
variable {m : Mm} (h : m.Wf)
include h
omit h in
def aHi (t : AB) : (eI m t).length = 77 + t.length := by unfold eI; simp only [eF, bQ, Gb]; omega
def Wo : (oM m).length = 8482 := by unfold oM; rw [aHi, bQ, bQ, S3 h.ln.bd, h.lWork, h.lHigh]
omit h in
def aLr (t X : AB) : eI m t ++ X = eI m (t ++ X) := by unfold eI; simp only [ct, eC]
omit h in
def aN9 : ∀ {x : Int} {i : Nat} {l : AB}, bE l → bE (aY x i :: l) := fun hl y hy => by
 rcases List.mem_cons.1 hy with rfl | hy
 ·exact aEn _ _
 ·exact hl y hy
omit h in
def aLw {t : AB} (ht : bE t) : bE (eI m t) := by
 unfold eI
 repeat refine aN9 ?_
 exact ht
def aOg : bE (oM m) := by
 have hV : ∀ l : List Vc, bE (l.flatMap Hu) := fun l => by
  induction l with
  | nil => intro x hx; cases hx
  | cons v l ih => rw [fm]; exact pN (pN (uU _ _) (pN (uU _ _) (pN (uU _ _) (uU _ _)))) ih
 have hB : bE (vA m.bd) := pN h.bd.bR (pN (pN (uU _ _) (uU _ _)) (pN (pN (uU _ _) (pN (uU _ _) (pN (uU _ _) (uU _ _)))) (hV _)))
 exact aLw (pN hB (pN h.bWork h.bHigh))
def aPf (hr : m.cpu.r.Ok) (hd : 0 ≤ m.ck.day ∧ m.ck.day < 65536) (n : Mm) (X : AB) : yU n (oM m ++ X) = { n with cpu := m.cpu, bk := { n.bk with last := m.bk.last, on := m.bk.on, mode := m.bk.mode, low := m.bk.low, high := m.bk.high }, ck := m.ck, tm := m.tm, pd := m.pd, pt := m.pt, cp := m.cp, bd := m.bd, flags := m.flags, lets := m.lets, steps := m.steps, cycles := m.cycles, work := m.work, high := m.high } := by
 unfold yU oM
 rw [aLr, aNM h hr hd, eC, aLU h.bd _ rfl]
 have hl := S3 h.ln.bd
 have e1 : ((eI m (vA m.bd ++ (m.work ++ m.high ++ X))).drop 163).take 8192 = m.work := by
  rw [show 163 = 77 + 86 by rfl, ← bw, Ug, ez hl, eC, fy h.lWork]
 have e2 : ((eI m (vA m.bd ++ (m.work ++ m.high ++ X))).drop 8355).take 127 = m.high := by
  rw [show 8355 = 77 + (86 + 8192) by rfl, ← bw, Ug, ← bw, ez hl, eC, ez h.lWork, fy h.lHigh]
 rw [e1, e2]
def aEK {bs : AB} (hb : bE bs) (hl : 8482 ≤ bs.length) : (yU m bs).Wf := by
 have v1 := fun p => sM hb p 1
 have v2 := fun p => sM hb p 2
 have v4 := fun p => sM hb p 4
 have v8 := fun p => sM hb p 8
 have w2 : ∀ p, -9223372036854775808 ≤ vt bs p 2 ∧ vt bs p 2 ≤ 9223372036854775807 := fun p => by have h2 := v2 p; omega
 refine ⟨⟨h.bk.kind, h.bk.banks, h.bk.ram, v2 _, v2 _, v1 _⟩, ⟨⟨v1 _, v1 _, v1 _, w2 _, fun x hx => ?_⟩, v4 _⟩, ⟨v2 _, v1 _, v1 _, v1 _⟩, ⟨v1 _, v1 _⟩, ⟨v1 _, v1 _, v1 _, v2 _, v2 _, v2 _⟩, ⟨v1 _, v2 _⟩, ⟨?_, Fq (uP hb 77) 48, U, v2 _, v2 _, fun v hv => ?_, v2 _, v2 _⟩, v1 _, v1 _, v8 _, v8 _, h.u, h.banks, h.lRom, h.bRom, h.lRam, h.bRam, ?_, Fq (uP hb 163) 8192, ?_, Fq (uP hb 8355) 127⟩
 ·have hx' : x ∈ [vt bs 72 1, vt bs 73 1, vt bs 74 1, vt bs 75 1, vt bs 76 1] := hx
  simp only [eg, ec, or_false] at hx'
  rcases hx' with rfl | rfl | rfl | rfl | rfl <;> exact v1 _
 ·show ((bs.drop 77).take 48).length = 48
  rw [fZ, dN]; omega
 ·have hv' : v ∈ vU bs 135 := hv
  simp only [vU, eg, ec, or_false] at hv'
  rcases hv' with rfl | rfl | rfl | rfl <;> exact ⟨v2 _, v2 _, v2 _⟩
 ·show ((bs.drop 163).take 8192).length = 8192
  rw [fZ, dN]; omega
 ·show ((bs.drop 8355).take 127).length = 127
  rw [fZ, dN]; omega
omit h in
def aQj {bs : AB} (hb : bE bs) : (yU m bs).cpu.r.Ok := ⟨sM hb 0 1, sM hb 1 1, sM hb 2 1, sM hb 3 1, sM hb 4 1, sM hb 5 1, sM hb 6 1, sM hb 7 1, sM hb 14 2, sM hb 16 2⟩
end
def rA {L : AA} {o : Nat} {b : Bool} (h : L[o]? = some (.bool b)) : gP .bool L o := ⟨gV b, by rw [h]; cases b <;> rfl, by cases b; exact .inl rfl; exact .inr rfl⟩
def lL {x : Int} (h : 0 ≤ x ∧ x < 65536) : -9223372036854775808 ≤ x ∧ x ≤ 9223372036854775807 := by omega
def aFF {x : Int} (h : 0 ≤ x ∧ x < 4294967296) : -9223372036854775808 ≤ x ∧ x ≤ 9223372036854775807 := by omega
section
variable {A : Ad} {acc : AH} {m : Mm} (h : m.Wf) (hr : m.cpu.r.Ok)
include h hr
def aHR {o : Nat} {k : FK} (ho : o < 49) (hk : eV o = some k) : gP k (lJ m) o := by
 rcases (show o = 0 ∨ o = 1 ∨ o = 2 ∨ o = 3 ∨ o = 4 ∨ o = 5 ∨ o = 6 ∨ o = 7 ∨ o = 8 ∨ o = 9 ∨ o = 10 ∨ o = 11 ∨ o = 12 ∨ o = 13 ∨ o = 14 ∨ o = 15 ∨ o = 16 ∨ o = 17 ∨ o = 18 ∨ o = 19 ∨ o = 20 ∨ o = 21 ∨ o = 22 ∨ o = 23 ∨ o = 24 ∨ o = 25 ∨ o = 26 ∨ o = 27 ∨ o = 28 ∨ o = 29 ∨ o = 30 ∨ o = 31 ∨ o = 32 ∨ o = 33 ∨ o = 34 ∨ o = 35 ∨ o = 36 ∨ o = 37 ∨ o = 38 ∨ o = 39 ∨ o = 40 ∨ o = 41 ∨ o = 42 ∨ o = 43 ∨ o = 44 ∨ o = 45 ∨ o = 46 ∨ o = 47 ∨ o = 48 by omega) with rfl | rfl | rfl | rfl | rfl | rfl | rfl | rfl | rfl | rfl | rfl | rfl | rfl | rfl | rfl | rfl | rfl | rfl | rfl | rfl | rfl | rfl | rfl | rfl | rfl | rfl | rfl | rfl | rfl | rfl | rfl | rfl | rfl | rfl | rfl | rfl | rfl | rfl | rfl | rfl | rfl | rfl | rfl | rfl | rfl | rfl | rfl | rfl | rfl
 ·obtain rfl : FK.byte = k := aj hk
  exact ⟨_, U, hr.a⟩
 ·obtain rfl : FK.byte = k := aj hk
  exact ⟨_, U, hr.f⟩
 ·obtain rfl : FK.byte = k := aj hk
  exact ⟨_, U, hr.b⟩
 ·obtain rfl : FK.byte = k := aj hk
  exact ⟨_, U, hr.c⟩
 ·obtain rfl : FK.byte = k := aj hk
  exact ⟨_, U, hr.d⟩
 ·obtain rfl : FK.byte = k := aj hk
  exact ⟨_, U, hr.e⟩
 ·obtain rfl : FK.byte = k := aj hk
  exact ⟨_, U, hr.h⟩
 ·obtain rfl : FK.byte = k := aj hk
  exact ⟨_, U, hr.l⟩
 ·obtain rfl : FK.word = k := aj hk
  exact ⟨_, U, hr.sp⟩
 ·obtain rfl : FK.word = k := aj hk
  exact ⟨_, U, hr.pc⟩
 ·obtain rfl : FK.bool = k := aj hk
  exact rA U
 ·obtain rfl : FK.bool = k := aj hk
  exact rA U
 ·obtain rfl : FK.bool = k := aj hk
  exact rA U
 ·obtain rfl : FK.bool = k := aj hk
  exact rA U
 ·cases (show (none : Option FK) = some k from hk)
 ·cases (show (none : Option FK) = some k from hk)
 ·cases (show (none : Option FK) = some k from hk)
 ·obtain rfl : FK.bool = k := aj hk
  exact rA U
 ·obtain rfl : FK.bool = k := aj hk
  exact rA U
 ·obtain rfl : FK.int 2 = k := aj hk
  exact ⟨_, U, (lL h.bk.low)⟩
 ·obtain rfl : FK.int 2 = k := aj hk
  exact ⟨_, U, (lL h.bk.high)⟩
 ·obtain rfl : FK.byte = k := aj hk
  exact ⟨_, U, h.bk.last⟩
 ·obtain rfl : FK.byte = k := aj hk
  exact ⟨_, U, h.ck.s⟩
 ·obtain rfl : FK.byte = k := aj hk
  exact ⟨_, U, h.ck.m⟩
 ·obtain rfl : FK.byte = k := aj hk
  exact ⟨_, U, h.ck.h⟩
 ·obtain rfl : FK.int 2 = k := aj hk
  exact ⟨_, U, h.ck.day⟩
 ·obtain rfl : FK.int 4 = k := aj hk
  exact ⟨_, U, (aFF h.ck.sub)⟩
 ·obtain rfl : FK.bool = k := aj hk
  exact rA U
 ·obtain rfl : FK.bool = k := aj hk
  exact rA U
 ·obtain rfl : FK.byte = k := aj hk
  exact ⟨_, U, (h.ck.byH m.ck.h0 vY)⟩
 ·obtain rfl : FK.byte = k := aj hk
  exact ⟨_, U, (h.ck.byH m.ck.h1 vY)⟩
 ·obtain rfl : FK.byte = k := aj hk
  exact ⟨_, U, (h.ck.byH m.ck.h2 vY)⟩
 ·obtain rfl : FK.byte = k := aj hk
  exact ⟨_, U, (h.ck.byH m.ck.h3 vY)⟩
 ·obtain rfl : FK.byte = k := aj hk
  exact ⟨_, U, (h.ck.byH m.ck.h4 vY)⟩
 ·obtain rfl : FK.word = k := aj hk
  exact ⟨_, U, h.tm.cnt⟩
 ·obtain rfl : FK.byte = k := aj hk
  exact ⟨_, U, h.tm.tima⟩
 ·obtain rfl : FK.byte = k := aj hk
  exact ⟨_, U, h.tm.tma⟩
 ·obtain rfl : FK.byte = k := aj hk
  exact ⟨_, U, h.tm.tac⟩
 ·obtain rfl : FK.bool = k := aj hk
  exact rA U
 ·obtain rfl : FK.byte = k := aj hk
  exact ⟨_, U, h.pd.sel⟩
 ·obtain rfl : FK.byte = k := aj hk
  exact ⟨_, U, h.pd.down⟩
 ·obtain rfl : FK.byte = k := aj hk
  exact ⟨_, U, h.pt.data⟩
 ·obtain rfl : FK.byte = k := aj hk
  exact ⟨_, U, h.pt.control⟩
 ·obtain rfl : FK.byte = k := aj hk
  exact ⟨_, U, h.pt.last⟩
 ·obtain rfl : FK.int 2 = k := aj hk
  exact ⟨_, U, (lL h.pt.bits)⟩
 ·obtain rfl : FK.int 2 = k := aj hk
  exact ⟨_, U, (lL h.pt.count)⟩
 ·obtain rfl : FK.int 2 = k := aj hk
  exact ⟨_, U, (lL h.pt.sent)⟩
 ·obtain rfl : FK.byte = k := aj hk
  exact ⟨_, U, h.cp.page⟩
 ·obtain rfl : FK.int 2 = k := aj hk
  exact ⟨_, U, (lL h.cp.left)⟩
omit hr in
def aKW {o : Nat} {k : FK} (h1 : 97 ≤ o) (h2 : o < 119) (hk : eV o = some k) : gP k (cMm A acc m) o := by
 obtain ⟨a, b, c, d, e⟩ := Ge h.ln
 have o0 := h.bd.oV a (by rw [e]; simp); have o1 := h.bd.oV b (by rw [e]; simp); have o2 := h.bd.oV c (by rw [e]; simp); have o3 := h.bd.oV d (by rw [e]; simp)
 have hE : qH m.bd = [.bool m.bd.on, .int .i64 m.bd.div, .int .i64 m.bd.step] ++ ((dK a ++ (dK b ++ (dK c ++ (dK d ++ [])))) ++ [.int .i64 m.bd.pitch, .int .i64 m.bd.slide, .bool m.bd.slides]) := by unfold qH; rw [e]; rfl
 have g : ∀ j v, ([.bool m.bd.on, .int .i64 m.bd.div, .int .i64 m.bd.step] ++ ((dK a ++ (dK b ++ (dK c ++ (dK d ++ [])))) ++ [.int .i64 m.bd.pitch, .int .i64 m.bd.slide, .bool m.bd.slides]) : AA)[j]? = some v → (cMm A acc m)[97 + j]? = some v := fun j v hv => aEq h.ln (by rw [hE]; exact hv)
 rcases (show o = 97 ∨ o = 98 ∨ o = 99 ∨ o = 100 ∨ o = 101 ∨ o = 102 ∨ o = 103 ∨ o = 104 ∨ o = 105 ∨ o = 106 ∨ o = 107 ∨ o = 108 ∨ o = 109 ∨ o = 110 ∨ o = 111 ∨ o = 112 ∨ o = 113 ∨ o = 114 ∨ o = 115 ∨ o = 116 ∨ o = 117 ∨ o = 118 by omega) with rfl | rfl | rfl | rfl | rfl | rfl | rfl | rfl | rfl | rfl | rfl | rfl | rfl | rfl | rfl | rfl | rfl | rfl | rfl | rfl | rfl | rfl
 ·obtain rfl : FK.bool = k := aj hk
  exact rA (g 0 _ U)
 ·obtain rfl : FK.int 2 = k := aj hk
  exact ⟨_, g 1 _ U, (lL h.bd.div)⟩
 ·obtain rfl : FK.int 2 = k := aj hk
  exact ⟨_, g 2 _ U, (lL h.bd.step)⟩
 ·obtain rfl : FK.bool = k := aj hk
  exact rA (g 3 _ U)
 ·obtain rfl : FK.int 2 = k := aj hk
  exact ⟨_, g 4 _ U, (lL o0.len)⟩
 ·obtain rfl : FK.int 2 = k := aj hk
  exact ⟨_, g 5 _ U, (lL o0.lev)⟩
 ·obtain rfl : FK.int 2 = k := aj hk
  exact ⟨_, g 6 _ U, (lL o0.wait)⟩
 ·obtain rfl : FK.bool = k := aj hk
  exact rA (g 7 _ U)
 ·obtain rfl : FK.int 2 = k := aj hk
  exact ⟨_, g 8 _ U, (lL o1.len)⟩
 ·obtain rfl : FK.int 2 = k := aj hk
  exact ⟨_, g 9 _ U, (lL o1.lev)⟩
 ·obtain rfl : FK.int 2 = k := aj hk
  exact ⟨_, g 10 _ U, (lL o1.wait)⟩
 ·obtain rfl : FK.bool = k := aj hk
  exact rA (g 11 _ U)
 ·obtain rfl : FK.int 2 = k := aj hk
  exact ⟨_, g 12 _ U, (lL o2.len)⟩
 ·obtain rfl : FK.int 2 = k := aj hk
  exact ⟨_, g 13 _ U, (lL o2.lev)⟩
 ·obtain rfl : FK.int 2 = k := aj hk
  exact ⟨_, g 14 _ U, (lL o2.wait)⟩
 ·obtain rfl : FK.bool = k := aj hk
  exact rA (g 15 _ U)
 ·obtain rfl : FK.int 2 = k := aj hk
  exact ⟨_, g 16 _ U, (lL o3.len)⟩
 ·obtain rfl : FK.int 2 = k := aj hk
  exact ⟨_, g 17 _ U, (lL o3.lev)⟩
 ·obtain rfl : FK.int 2 = k := aj hk
  exact ⟨_, g 18 _ U, (lL o3.wait)⟩
 ·obtain rfl : FK.int 2 = k := aj hk
  exact ⟨_, g 19 _ U, (lL h.bd.pitch)⟩
 ·obtain rfl : FK.int 2 = k := aj hk
  exact ⟨_, g 20 _ U, (lL h.bd.slide)⟩
 ·obtain rfl : FK.bool = k := aj hk
  exact rA (g 21 _ U)
def O8 : vX eV (cMm A acc m) := fun o k hk => by
 by_cases h1 : o < 49
 ·obtain ⟨x, hx, hok⟩ := aHR h hr h1 hk
  exact ⟨x, aL9 hx, hok⟩
 by_cases h2 : o < 97
 ·obtain ⟨i, rfl⟩ : ∃ i, o = 49 + i := ⟨o - 49, aR⟩
  have hk' : eV (49 + i) = some .byte := Ic _ (Jh I)
  rw [hk'] at hk; cases hk
  refine ⟨m.bd.regs.getD i 0, ?_, h.bd.bR.get i⟩
  rw [Cf, eC]
  exact iH (n := i) (by rw [qJ]) (lM (gJ (by rw [h.bd.lR]; omega)))
 by_cases h3 : o < 119
 ·exact aKW h I h3 hk
 by_cases h4 : o < 135
 ·rcases (show o = 119 ∨ o = 120 ∨ o = 121 ∨ o = 122 ∨ 123 ≤ o by omega) with rfl | rfl | rfl | rfl | h5
  ·obtain rfl : FK.byte = k := aj hk
   exact ⟨_, get_mid h.ln (j := 0) U, h.flags⟩
  ·obtain rfl : FK.byte = k := aj hk
   exact ⟨_, get_mid h.ln (j := 1) U, h.lets⟩
  ·obtain rfl : FK.long 8 = k := aj hk
   exact ⟨_, get_mid h.ln (j := 2) U, h.steps⟩
  ·obtain rfl : FK.long 8 = k := aj hk
   exact ⟨_, get_mid h.ln (j := 3) U, h.cycles⟩
  ·have : eV o = none := by unfold eV; repeat (first | rw [ae I] | rw [ag I])
   rw [this] at hk; cases hk
 by_cases h5 : o < 8327
 ·obtain ⟨i, rfl⟩ : ∃ i, o = 135 + i := ⟨o - 135, aR⟩
  rw [Ol _ (Jh (show i < 8192 by omega))] at hk; cases hk
  exact ⟨_, aBG h.ln I, h.bWork.get i⟩
 by_cases h6 : o < 8454
 ·obtain ⟨i, rfl⟩ : ∃ i, o = 8327 + i := ⟨o - 8327, aR⟩
  rw [Uo _ (Jh (show i < 127 by omega))] at hk; cases hk
  exact ⟨_, get_high h.ln I, h.bHigh.get i⟩
 ·have : eV o = none := by unfold eV; repeat (first | rw [ae I] | rw [ag I])
  rw [this] at hk; cases hk
end
section
variable {m : Mm} (h : m.Wf) (rs : AA)
include h
def aAk : ∀ o ∈ cT 0 m.ram.length, gP .byte (m.ram.map (.int .u8) ++ rs) o := fun o ho => by
 obtain ⟨i, hi, rfl⟩ := Yu ho
 rw [cg]
 exact ⟨_, lM (gJ hi), h.bRam.get i⟩
def aE5 (bs : AB) : bI false .byte (cT 0 m.ram.length) (m.ram.map (.int .u8) ++ rs, bs) = (m.ram.map (.int .u8) ++ rs, bs ++ m.ram) := by
 rw [Ik]
 exact aD (fun z => (_, bs ++ z)) (Rt (X := []) U U h.bRam)
omit h in
def Y5 {bs : AB} {p : Nat} (hb : p + m.ram.length ≤ bs.length) : bI true .byte (cT 0 m.ram.length) (m.ram.map (.int .u8) ++ rs, bs.drop p) = (((bs.drop p).take m.ram.length).map (.int .u8) ++ rs, bs.drop (p + m.ram.length)) := by
 rw [pS bs (q := p + m.ram.length) (by rw [Js]; show _ = p + m.ram.length * 1; omega)]
 exact aD (fun z => (z, _)) (Uk (X := []) U hb U)
end
def fM (m : Mm) : AB := oM m ++ (m.ram ++ fQ m.u)
def Sj (m : Mm) (bs : AB) : Mm := { yU m bs with ram := (bs.drop 8482).take m.ram.length }
def sE (m : Mm) (bs : AB) : Int :=
 if bs.length ≠ (fM m).length then 6 else if lK (bs.drop (8482 + m.ram.length)) = 0 ∧ fM { Sj m bs with u := uH (bs.drop (8482 + m.ram.length)) } = bs then 0 else 5
def uN (m : Mm) (bs : AB) : Mm := if sE m bs = 0 then { Sj m bs with u := uH (bs.drop (8482 + m.ram.length)), acc := [] } else m
section
variable {u : PU}
def aKh (u : PU) : (stepU u).V = u.V ∧ (stepU u).O = u.O ∧ (stepU u).R = u.R := by
 unfold stepU sC pO oneU
 repeat' split
 all_goals exact ⟨rfl, rfl, rfl⟩
def Wd (u : PU) : (tickU u).V = u.V ∧ (tickU u).O = u.O ∧ (tickU u).R = u.R := by
 unfold tickU
 split
 ·exact aKh u
 ·exact ⟨U, U, U⟩
end
structure PU.Ln (u : PU) : Prop where
 lV : u.V.length = 8192
 lO : u.O.length = 160
 lR : u.R.length = 12
 lP : u.P.length = 23040
def PU.Wf.ln {u : PU} (h : u.Wf) : u.Ln := ⟨h.lV, h.lO, h.lR, h.lP⟩
section
variable {u : PU}
def nU_len (h : u.Ln) : (cU u).length = 31409 := by simp [cU, h.lV, h.lO, h.lR, h.lP]
def aEi (h : u.Ln) {j : Nat} (hj : j < 12) : (cU u)[8352 + j]? = some (.int .u8 (u.R.getD j 0)) :=
 iH (n := 160 + j) wP (iH (n := j) Gk (lM (gJ Kh)))
def Z1 (h : u.Ln) {j : Nat} {v : AH} (hv : ([.int .i64 u.line, .int .i64 u.dot, .int .i64 u.own, .int .i64 u.frames, .bool u.sig] : AA)[j]? = some v) : (cU u)[8364 + j]? = some v :=
 iH (n := 172 + j) wP (iH (n := 12 + j) Gj (iH (n := j) Co (lM hv)))
def aPy (h : u.Ln) {j : Nat} {r : AB} (hj : j + r.length ≤ 8192) : aV (cU u) j (r.map (.int .u8)) = cU { u with V := iO u.V j r } := by
 unfold cU
 rw [mD (by simp [h.lV]; omega), Ee]
def aH9 (h : u.Ln) {j : Nat} {r : AB} (hj : j + r.length ≤ 160) : aV (cU u) (8192 + j) (r.map (.int .u8)) = cU { u with O := iO u.O j r } := by
 unfold cU
 rw [gE (n := j) Ea Ry, mD Ry, Ee]
def B2 (h : u.Ln) {j : Nat} {r : AB} (hj : j + r.length ≤ 12) : aV (cU u) (8352 + j) (r.map (.int .u8)) = cU { u with R := iO u.R j r } := by
 unfold cU
 rw [gE (n := 160 + j) wP Oh, gE (n := j) Gk Gu, mD Gu, Ee]
def Jf (h : u.Ln) {j : Nat} {v : AH} (hj : j < 5) : aV (cU u) (8364 + j) [v] = u.V.map (.int .u8) ++ (u.O.map (.int .u8) ++ (u.R.map (.int .u8) ++ (aV [.int .i64 u.line, .int .i64 u.dot, .int .i64 u.own, .int .i64 u.frames, .bool u.sig] j [v] ++ u.P.map (.int .u8)))) := by
 unfold cU
 rw [gE (n := 172 + j) wP Oh, gE (n := 12 + j) Gj Gu, gE (n := j) Co lA, mD lA]
def aIQ (h : u.Ln) {j : Nat} {r : AB} (hj : j + r.length ≤ 23040) : aV (cU u) (8369 + j) (r.map (.int .u8)) = cU { u with P := iO u.P j r } := by
 unfold cU
 rw [gE (n := 177 + j) wP (by simp [h.lO, h.lR, h.lP]; omega), gE (n := 17 + j) Gj (by simp [h.lR, h.lP]; omega), gE (n := 5 + j) Ct Rr, gE (n := j) aL Rr, Ee]
def aHm (u : PU) : fL (cU u) = true := by
 unfold cU
 simp only [fL, ga, cq]
 exact ⟨kE _ _, kE _ _, kE _ _, U, kE _ _⟩
end
section
variable {l : AB} (hl : l.length = 31408)
def z1 (l : AB) : PU := { jV with V := l.take 8192 }
def z2 (l : AB) : PU := { z1 l with O := (l.drop 8192).take 160 }
def z3 (l : AB) : PU := { z2 l with R := (l.drop 8352).take 6 ++ List.replicate 6 0 }
def rZ (l : AB) : AB := (l.drop 8352).take 6 ++ 0 :: (l.drop 8358).take 5
def z4 (l : AB) : PU := { z3 l with R := rZ l }
def z5 (l : AB) : PU := { z4 l with line := l.getD 8356 0, dot := l.getD 8363 0, own := l.getD 8364 0 }
def z6 (l : AB) : PU := { z5 l with frames := l.getD 8365 0 + 256 * l.getD 8366 0, sig := l.getD 8367 0 == 1 }
def z7 (l : AB) : PU := { z6 l with R := qG l }
def pZ (l : AB) (i : Nat) : AB := (l.drop 8368).take (i * 160) ++ List.replicate (23040 - i * 160) 0
def z8 (l : AB) (i : Nat) : PU := { z7 l with P := pZ l i }
def Yg : jV.Ln := Rv.ln
include hl
def Gd : (z1 l).Ln := ⟨by simp [z1, hl], cx, cx, cx⟩
def Jn : (z2 l).Ln := ⟨(Gd hl).lV, by simp [z2, hl], (Gd hl).lR, (Gd hl).lP⟩
def Je : (z3 l).Ln := ⟨(Jn hl).lV, (Jn hl).lO, by simp [z3, hl], (Jn hl).lP⟩
def aCU : (rZ l).length = 12 := by simp [rZ, hl]
def aGS : (qG l).length = 12 := by
 have := aCU hl; unfold rZ at this; simpa [qG] using this
def iA : (z4 l).Ln := ⟨(Je hl).lV, (Je hl).lO, aCU hl, (Je hl).lP⟩
def Ek : (z5 l).Ln := ⟨(iA hl).lV, (iA hl).lO, (iA hl).lR, (iA hl).lP⟩
def Wy : (z6 l).Ln := ⟨(iA hl).lV, (iA hl).lO, (iA hl).lR, (iA hl).lP⟩
def Fv : (z7 l).Ln := ⟨(iA hl).lV, (iA hl).lO, aGS hl, (iA hl).lP⟩
def aMn {i : Nat} (hi : i ≤ 144) : (pZ l i).length = 23040 := by simp [pZ, hl]; omega
def z8_ln {i : Nat} (hi : i ≤ 144) : (z8 l i).Ln := ⟨(Fv hl).lV, (Fv hl).lO, (Fv hl).lR, aMn hl hi⟩
def p_1 : aV (cU jV) 0 ((l.map (.int .u8)).take 8192) = cU (z1 l) := by
 rw [← fz, aPy Yg lA, aC5 (by rw [Yg.lV]; simp [hl])]; rfl
def p_2 : aV (cU (z1 l)) 8192 (((l.drop 8192).map (.int .u8)).take 160) = cU (z2 l) := by
 rw [← fz]
 have := aH9 (Gd hl) (j := 0) (r := (l.drop 8192).take 160) xC
 rw [gr] at this
 rw [this, aC5 (by rw [(Gd hl).lO]; simp [hl])]; rfl
def p_3 : aV (cU (z2 l)) 8352 (((l.drop 8352).map (.int .u8)).take 6) = cU (z3 l) := by
 rw [← fz]
 have := B2 (Jn hl) (j := 0) (r := (l.drop 8352).take 6) lA
 rw [gr] at this
 rw [this]
 have h2 : iO (z2 l).R 0 ((l.drop 8352).take 6) = (l.drop 8352).take 6 ++ List.replicate 6 0 := by
  unfold iO
  have h3 : (z2 l).R = List.replicate 12 0 := rfl
  rw [h3]
  simp [hl]
 rw [h2]; rfl
def p_4 : aV (cU (z3 l)) 8359 ((((l.drop 8358).take 5).map (.int .u8)).take 5) = cU (z4 l) := by
 rw [← fz, List.take_take]
 have := B2 (Je hl) (j := 7) (r := (l.drop 8358).take 5) lA
 rw [show 8352 + 7 = 8359 by rfl] at this
 rw [show min 5 5 = 5 by rfl, this]
 have h2 : iO (z3 l).R 7 ((l.drop 8358).take 5) = rZ l := by
  have h3 : (z3 l).R = (l.drop 8352).take 6 ++ [0] ++ List.replicate 5 0 := by rw [eC]; rfl
  have h5 : ((l.drop 8358).take 5).length = 5 := by simp [hl]
  rw [h3, aBb xC, h5]
  simp [rZ]
 rw [h2]; rfl
def aPc : (cU (z4 l))[8352 + 4]? = some (.int .u8 (l.getD 8356 0)) := by
 rw [aEi (iA hl) M]
 have : (z4 l).R.getD 4 0 = l.getD 8356 0 := by
  show (rZ l).getD 4 0 = _
  unfold rZ
  have h4 : ((l.drop 8352).take 6).length = 6 := by simp [hl]
  rw [fV, dp Up, ← fV, Kg _ M, Cq]
 rw [this]
def aJ2 : (cU (z7 l))[8352 + 1]? = some (.int .u8 (l.getD 8353 0)) := by
 rw [aEi (Fv hl) M]
 have : (z7 l).R.getD 1 0 = l.getD 8353 0 := by
  show (qG l).getD 1 0 = _
  unfold qG
  have h4 : ((l.drop 8352).take 6).length = 6 := by simp [hl]
  rw [fV, ge M, dp Up, ← fV, Kg _ M, Cq]
 rw [this]
def aLI : aV (cU (z4 l)) 8364 [.int .i64 (l.getD 8356 0)] = cU { z4 l with line := l.getD 8356 0 } := Jf (iA hl) (j := 0) M
def aIo : aV (cU { z4 l with line := l.getD 8356 0 }) 8365 [.int .i64 (l.getD 8363 0)] = cU { z4 l with line := l.getD 8356 0, dot := l.getD 8363 0 } :=
 Jf (u := { z4 l with line := l.getD 8356 0 }) ⟨(iA hl).lV, (iA hl).lO, (iA hl).lR, (iA hl).lP⟩ (j := 1) M
def aHk : aV (cU { z4 l with line := l.getD 8356 0, dot := l.getD 8363 0 }) 8366 [.int .i64 (l.getD 8364 0)] = cU (z5 l) :=
 Jf (u := { z4 l with line := l.getD 8356 0, dot := l.getD 8363 0 }) ⟨(iA hl).lV, (iA hl).lO, (iA hl).lR, (iA hl).lP⟩ (j := 2) M
def aKG : aV (cU (z5 l)) 8367 [.int .i64 (l.getD 8365 0 + 256 * l.getD 8366 0)] = cU { z5 l with frames := l.getD 8365 0 + 256 * l.getD 8366 0 } := Jf (Ek hl) (j := 3) M
def aJD : aV (cU { z5 l with frames := l.getD 8365 0 + 256 * l.getD 8366 0 }) 8368 [.bool (l.getD 8367 0 == 1)] = cU (z6 l) :=
 Jf (u := { z5 l with frames := l.getD 8365 0 + 256 * l.getD 8366 0 }) ⟨(iA hl).lV, (iA hl).lO, (iA hl).lR, (iA hl).lP⟩ (j := 4) M
def p_7 : aV (cU (z6 l)) 8356 [.int .u8 0] = cU (z7 l) := by
 have := B2 (Wy hl) (j := 4) (r := [0]) aL
 rw [show 8352 + 4 = 8356 by rfl] at this
 rw [show ([.int .u8 0] : AA) = [0].map (.int .u8) by rfl, this, aBV (by rw [(Wy hl).lR]; decide)]; rfl
def aL6 : (cU (z7 l))[8364]? = some (.int .i64 (l.getD 8356 0)) := Z1 (Fv hl) (j := 0) rfl
def aMD : (cU (z7 l))[8365]? = some (.int .i64 (l.getD 8363 0)) := Z1 (Fv hl) (j := 1) rfl
omit hl in
def aHj : cU (z7 l) = cU (z8 l 0) := by
 have : pZ l 0 = (z7 l).P := by
  unfold pZ
  rw [gj, gi, bq, Nat.sub_zero]; rfl
 unfold z8; rw [this]
def p_8 {i : Nat} (hi : i < 144) : aV (cU (z8 l i)) (8369 + i * 160) (((l.drop (8368 + i * 160)).map (.int .u8)).take 160) = cU (z8 l (i + 1)) := by
 rw [← fz, aIQ (z8_ln hl I) lA]
 have : iO (pZ l i) (i * 160) ((l.drop (8368 + i * 160)).take 160) = pZ l (i + 1) := by
  unfold pZ
  have h2 : ((l.drop (8368 + i * 160)).take 160).length = 160 := by simp [hl]; omega
  rw [aBb (by simp [hl]; omega), h2, List.drop_replicate, show 23040 - i * 160 - 160 = 23040 - (i + 1) * 160 by omega, ← H3, bw]
 show cU { z8 l i with P := iO (pZ l i) (i * 160) _ } = _
 rw [this]; rfl
def z8_all : z8 l 144 = uH l := by
 have : pZ l 144 = l.drop 8368 := by unfold pZ; rw [dm xC]; simp
 unfold z8; rw [this]; rfl
def wI (h : mN l = false) : 5 = lK l := by unfold lK; rw [ae I, ae (by rw [h]; decide)]
def B6 (h : mN l = true) : 0 = lK l := by unfold lK; rw [ae I, ag h]
end
section
variable {l : AB}
def X4 (h : l.length ≠ 31408) : 6 = lK l := by unfold lK; rw [ag h]
def aBg (h : 154 ≤ l.getD 8356 0) : mN l = false := by unfold mN; rw [cz I]; rfl
def aAz (h : 114 ≤ l.getD 8363 0) : mN l = false := by unfold mN; rw [cz (p := l.getD 8363 0 < 114) I]; simp
def aFh (h : (lB .u8 (l.getD 8353 0) 120 != 0) = true) : mN l = false := by unfold mN; rw [show (lB .u8 (l.getD 8353 0) 120 == 0) = false by simpa using h]; simp
def Q3 (h : 1 < l.getD 8367 0) : mN l = false := by unfold mN; rw [cz (p := l.getD 8367 0 ≤ 1) I]; simp
def aFf (l : AB) : l.all (fun x => decide (x ≤ 3)) = !(l.any fun x => decide (3 < x)) := by
 induction l with
 | nil => rfl
 | cons x l ih =>
  rw [go, List.any_cons, ih, Bool.not_or]
  congr 1
  by_cases h : x ≤ 3
  ·have h2 : ¬ 3 < x := by omega
   simp [h, h2]
  ·have h2 : 3 < x := by omega
   simp [h, h2]
def aDC (h : ((l.drop 8368).any fun x => decide (3 < x)) = true) : mN l = false := by unfold mN; rw [aFf, h]; simp
def aDa (h1 : l.getD 8356 0 < 154) (h2 : l.getD 8363 0 < 114) (h3 : (lB .u8 (l.getD 8353 0) 120 != 0) = false) (h4 : l.getD 8367 0 ≤ 1) (h5 : ((l.drop 8368).any fun x => decide (3 < x)) = false) : mN l = true := by
 unfold mN
 rw [aFf, h5, ap h1, ap h2, ap h4, show (lB .u8 (l.getD 8353 0) 120 == 0) = true by simpa using h3]; rfl
def Xv {u : PU} (h : 0 = lK l) : lD u l = uH l := by unfold lD; rw [ag h.symm]
def Fs {u : PU} {e : Int} (h : e = lK l) (h0 : e ≠ 0) : lD u l = u := by unfold lD; rw [ae I]
end
structure PU.Good (u : PU) : Prop where
 ok : u.Ok
 own : u.own ≤ u.line + (if 63 ≤ u.dot then 1 else 0)
 r4 : u.R.getD 4 0 = 0
 r6 : u.R.getD 6 0 = 0
 pic : ∀ x ∈ u.P, x ≤ 3
 off : jD u = false → u.line = 0 ∧ u.dot = 0
def aGu : jV.Good := ⟨aCW, iR, rfl, rfl, fun x hx => by rw [(List.mem_replicate.1 hx).2]; decide, fun _ => ⟨rfl, rfl⟩⟩
section
variable {u : PU}
def PU.Good.own_lt (h : u.Good) : u.own < 256 := by
 have h1 := h.own; have h2 := h.ok.line
 split at h1 <;> omega
def aMI (u : PU) : ∀ x ∈ rowU u, x ≤ 3 := fun x hx => by
 obtain ⟨k, _, rfl⟩ := List.mem_map.1 hx
 have := aAE u.V (u.r 0) (u.r 7) (u.r 8) (u.r 9) k u.line ((belowU u).getD k 0) ((jI (rM u.O (u.r 0) u.line)).find? (rD u.V (u.r 0) k u.line))
 unfold Au; omega
def aPH {l r : AB} {j : Nat} {x : Int} (h : x ∈ iO l j r) : x ∈ l ∨ x ∈ r := by
 unfold iO at h
 rcases List.mem_append.1 h with h | h
 ·rcases List.mem_append.1 h with h | h
  ·exact .inl (dh h)
  ·exact .inr h
 ·exact .inl (di h)
def PU.Good.tick (h : u.Good) : (tickU u).Good := by
 have hk := h.ok.tick
 by_cases hl : jD u = true
 ·have ht : tickU u = askU (stepU u) := by unfold tickU; rw [ag hl]
  refine ⟨hk, ?_, ?_, ?_, ?_, fun hf => ?_⟩
  ·rw [ht]
   show (stepU u).own ≤ (stepU u).line + (if 63 ≤ (stepU u).dot then 1 else 0)
   have ho := h.own; have hd := h.ok.dot; have hn := h.ok.line; have hd0 := h.ok.wf.dot; have hl0 := h.ok.wf.line
   by_cases h1 : u.dot = 62 ∧ u.line < 144
   ·rw [Nq h1.1 h1.2]
    simp only [sC, oneU]
    split at ho <;> (try split) <;> (try split) <;> omega
   ·by_cases h2 : u.dot = 113
    ·rw [Ii h2]
     unfold pO oneU
     dsimp only
     by_cases h3 : u.line = 143
     ·rw [ag h3]; dsimp only; split at ho <;> (try split) <;> omega
     ·rw [ae h3]
      by_cases h4 : u.line = 153
      ·rw [ag h4]; dsimp only; (try split) <;> omega
      ·rw [ae h4]; dsimp only; split at ho <;> (try split) <;> omega
    ·rw [Kj h1 h2]
     simp only [oneU]
     split at ho <;> (try split) <;> omega
  ·rw [(Wd u).2.2]; exact h.r4
  ·rw [(Wd u).2.2]; exact h.r6
  ·rw [ht]
   show ∀ x ∈ (stepU u).P, x ≤ 3
   intro x hx
   unfold stepU sC pO oneU at hx
   split at hx
   ·rcases aPH hx with hx | hx
    ·exact h.pic x hx
    ·exact aMI _ x hx
   ·repeat' split at hx
    all_goals exact h.pic x hx
  ·have : jD (tickU u) = jD u := by unfold jD PU.r; rw [(Wd u).2.2]
   rw [this, hl] at hf; cases hf
 ·have ht : tickU u = u := by unfold tickU; rw [ae hl]
  rw [ht]; exact h
def PU.Good.set (h : u.Good) {n x : Int} (hn : n = -1 ∨ (0 ≤ n ∧ n < 12 ∧ n ≠ 6)) (h0 : n ≠ -1) : (jU u n x).R.getD 4 0 = 0 ∧ (jU u n x).R.getD 6 0 = 0 := by
 have e : ∀ (j k : Nat) (y : Int), k ≠ j → (u.R.set j y).getD k 0 = u.R.getD k 0 := fun j k y hk => by
  rw [fV, ge (Ne.symm hk), ← fV]
 by_cases h1 : n = 1
 ·rw [set_1 h1]; exact ⟨(e 1 4 _ M).trans h.r4, (e 1 6 _ M).trans h.r6⟩
 ·by_cases h4 : n = 4
  ·rw [Ji h4]; exact ⟨h.r4, h.r6⟩
  ·rw [set_n h1 h4]; exact ⟨(e _ 4 _ I).trans h.r4, (e _ 6 _ I).trans h.r6⟩
def aIt (u : PU) (n x : Int) : (jU u n x).P = u.P ∧ (jU u n x).line = u.line ∧ (jU u n x).dot = u.dot ∧ (jU u n x).own = u.own := by
 unfold jU
 repeat' split
 all_goals exact ⟨rfl, rfl, rfl, rfl⟩
def PU.Good.write (h : u.Good) {a x : Int} (hx : 0 ≤ x ∧ x < 256) : (kZ u a x).Good := by
 have hk := h.ok.write (a := a) hx
 unfold kZ at hk ⊢
 split
 ·split
  ·rename_i h1 h2
   rw [ag h1, ag h2] at hk
   exact ⟨hk, h.own, h.r4, h.r6, h.pic, h.off⟩
  ·exact h
 ·rename_i h1
  rw [ae h1] at hk
  split
  ·rename_i h2
   rw [ag h2] at hk
   split
   ·rename_i h3
    rw [ag h3] at hk
    exact ⟨hk, h.own, h.r4, h.r6, h.pic, h.off⟩
   ·exact h
  ·rename_i h2
   rw [ae h2] at hk
   split
   ·exact h
   ·rename_i h3
    rw [ae h3] at hk
    obtain ⟨e1, e2, e3, e4⟩ := aIt u (numU a) x
    obtain ⟨g4, g6⟩ := h.set (x := x) (Oi a) h3
    have hpic : ∀ y ∈ (jU u (numU a) x).P, y ≤ 3 := by rw [e1]; exact h.pic
    by_cases hz : jD u = true ∧ jD (jU u (numU a) x) = false
    ·have hp : putU u (numU a) x = { jU u (numU a) x with line := 0, dot := 0, own := 0 } := Mt hz.1 hz.2
     rw [hp] at hk ⊢
     exact ⟨hk, by show (0 : Int) ≤ 0 + (if (63 : Int) ≤ 0 then 1 else 0); decide, g4, g6, hpic, fun _ => ⟨U, U⟩⟩
    ·have hp : putU u (numU a) x = jU u (numU a) x := by unfold putU xD; rw [ae hz]
     rw [hp] at hk ⊢
     refine ⟨hk, ?_, g4, g6, hpic, fun hf => ?_⟩
     ·show (jU u (numU a) x).own ≤ (jU u (numU a) x).line + (if 63 ≤ (jU u (numU a) x).dot then 1 else 0)
      rw [e2, e3, e4]; exact h.own
     ·show (jU u (numU a) x).line = 0 ∧ (jU u (numU a) x).dot = 0
      rw [e2, e3]
      have hf' : jD (jU u (numU a) x) = false := hf
      refine h.off ?_
      cases hq : jD u
      ·rfl
      ·exact absurd ⟨hq, hf'⟩ hz
def PU.Good.sprite (h : u.Good) (n : Int) {x : Int} (hx : 0 ≤ x ∧ x < 256) : (vF u n x).Good := by
 have hk := h.ok.sprite n hx
 unfold vF at hk ⊢
 split
 ·rename_i h1
  rw [ag h1] at hk
  exact ⟨hk, h.own, h.r4, h.r6, h.pic, h.off⟩
 ·exact h
end
end Go.Proofs.YthigpmaadmneaaaGreatDoor
