/- The unit that makes the picture: all of it as bytes, and back. Plain definitions and laws, no program. -/
import Derived.Test.YtldehodcfajpjaaGreatQcI
set_option linter.unusedSimpArgs false
set_option linter.unusedVariables false
set_option maxRecDepth 100000
namespace Go.Proofs.YtldehodcfajpjaaGreat
open Go Go.VV
structure Hd where
 title : List UInt8
 kind : Int
 clock : Bool
 battery : Bool
 banks : Int
 ram : Int
 whole : Bool
deriving DecidableEq
def cHd (h : Hd) : List Value := [.string (bs h.title), .int .i64 h.kind, .bool h.clock, .bool h.battery, .int .i64 h.banks, .int .i64 h.ram, .bool h.whole]
structure Mm where
 cpu : CS
 bk : Bk
 ck : Ck
 tm : Tm
 pd : Pd
 pt : Pt
 cp : Cp
 bd : Bd
 flags : Int
 lets : Int
 steps : Int
 cycles : Int
 hd : Hd
 u : PU
 rom : List Int
 ram : List Int
 work : List Int
 high : List Int
 acc : List Ac
def pictured (a : Int) : Bool := decide ((32768 ≤ a ∧ a < 40960) ∨ (65024 ≤ a ∧ a < 65184) ∨ (65344 ≤ a ∧ a < 65356 ∧ a ≠ 65350))
def askM (k : Int) (is : Bool) (m : Mm) : Mm := if is = true then { m with flags := bor .u8 m.flags k } else m
def savedM (a : Int) (m : Mm) : Int := match clockB m.bk with
 | some p => readCk p m.ck
 | none => match atB_ a m.bk with
  | none => 255
  | some n => if m.hd.kind = 2 then bor .u8 (m.ram.getD n.toNat 0) 240 else m.ram.getD n.toNat 0
def deviceM (a : Int) (m : Mm) : Int :=
 if a = 65280 then readPd m.pd else if a < 65283 then readPt (a - 65281) m.pt else if 65284 ≤ a ∧ a < 65288 then readTm (a - 65284) m.tm
 else if a = 65295 then bor .u8 m.flags 224 else if 65296 ≤ a ∧ a < 65344 then readB (a - 65296) m.bd else if a = 65350 then m.cp.page
 else if a = 65535 then m.lets else if 65408 ≤ a then m.high.getD (a - 65408).toNat 0 else 255
def peekM (a : Int) (m : Mm) : Int :=
 if a < 32768 then m.rom.getD (romB a m.bk).toNat 0 else if pictured a = true then peekU m.u a else if a < 49152 then savedM a m
 else if a < 65024 then m.work.getD (a % 8192).toNat 0 else if a < 65280 then 255 else deviceM a m
def saveM (a x : Int) (m : Mm) : Mm := match clockB m.bk with
 | some p => { m with ck := writeCk p x m.ck }
 | none => match atB_ a m.bk with
  | none => m
  | some n => { m with ram := m.ram.set n.toNat x }
def setDeviceM (a x : Int) (m : Mm) : Mm :=
 if a = 65280 then askM 16 (fallsPd m.pd (selPd x m.pd)) { m with pd := selPd x m.pd } else if a < 65283 then { m with pt := writePt (a - 65281) x m.pt }
 else if 65284 ≤ a ∧ a < 65288 then { m with tm := writeTm (a - 65284) x m.tm } else if a = 65295 then { m with flags := band .u8 x 31 }
 else if 65296 ≤ a ∧ a < 65344 then { m with bd := writeBd (a - 65296) x m.bd } else if a = 65350 then { m with cp := writeCp x }
 else if a = 65535 then { m with lets := x } else if 65408 ≤ a then { m with high := m.high.set (a - 65408).toNat x } else m
def latchM (is : Bool) (m : Mm) : Mm := if is = true then { m with ck := holdCk m.ck } else m
def pokeM (a x : Int) (m : Mm) : Mm :=
 if a < 32768 then latchM (latchB a x m.bk) { m with bk := writeB a x m.bk } else if pictured a = true then askM 2 (band .u8 (writeV m.u a x) 2 != 0) { m with u := writeU m.u a x }
 else if a < 49152 then saveM a x m else if a < 65024 then { m with work := m.work.set (a % 8192).toNat x } else if a < 65280 then m else setDeviceM a x m
def cyc1 (m : Mm) : Mm := askM 4 m.tm.over { m with cycles := (m.cycles + 1) % 18446744073709551616, tm := tickTm m.tm }
def cyc2 (m : Mm) : Mm := askM 8 (irqPt m.pt) { m with pt := tickPt m.pt }
def cyc3 (m : Mm) : Mm := if 0 < m.cp.left then { m with cp := tickCp m.cp, u := spriteU m.u (dstCp m.cp) (peekM (srcCp m.cp) { m with cp := tickCp m.cp }) } else m
def cyc4 (m : Mm) : Mm := { m with bd := tickB m.bd }
def cyc5 (m : Mm) : Mm := askM 2 (band .u8 (tickV m.u) 2 != 0) (askM 1 (band .u8 (tickV m.u) 1 != 0) { m with u := tickU m.u })
def cyc6 (m : Mm) : Mm := if m.hd.clock = true then { m with ck := tickCk m.ck } else m
def cycleM (m : Mm) : Mm := cyc6 (cyc5 (cyc4 (cyc3 (cyc2 (cyc1 m)))))
def noteM (k a x : Int) (m : Mm) : Mm := { m with acc := m.acc ++ [⟨k, a, x⟩] }
def seenM (a : Int) (m : Mm) : Int := if letsCp m.cp a = false then 255 else if pictured a = true then readU m.u a else peekM a m
def busM : BusA Mm where
 fetch a m := (seenM a (cycleM m), noteM 3 a (seenM a (cycleM m)) (cycleM m))
 read a m := (seenM a (cycleM m), noteM 1 a (seenM a (cycleM m)) (cycleM m))
 write a x m := noteM 2 a x (if letsCp (cycleM m).cp a = true then pokeM a x (cycleM m) else cycleM m)
 idle m := noteM 0 0 0 (cycleM m)
 pend m := band .u8 (band .u8 m.flags m.lets) 31
 ack n m := { m with flags := resB m.flags n }
def pressM (x : Int) (m : Mm) : Mm := askM 16 (fallsPd m.pd (pressPd x m.pd)) { m with pd := pressPd x m.pd }
def startM (plan : List Chg) (m : Mm) : Mm := { pressM (planAt plan m.steps) m with acc := [] }
def stepM (plan : List Chg) (m : Mm) : Dd × Mm :=
 let q := stepT busM (⟨m.cpu, startM plan m⟩ : Rn Mm)
 (q.1, { q.2.m with cpu := q.2.s, steps := (q.2.m.steps + 1) % 18446744073709551616 })
structure Mm.Wf (m : Mm) : Prop where
 bk : m.bk.Ok
 ck : m.ck.Ok
 tm : m.tm.Ok
 pd : m.pd.Ok
 pt : m.pt.Ok
 cp : m.cp.Ok
 bd : m.bd.Wf
 flags : 0 ≤ m.flags ∧ m.flags < 256
 lets : 0 ≤ m.lets ∧ m.lets < 256
 steps : 0 ≤ m.steps ∧ m.steps < 18446744073709551616
 cycles : 0 ≤ m.cycles ∧ m.cycles < 18446744073709551616
 u : m.u.Ok
 banks : 0 < m.bk.banks
 lRom : (m.rom.length : Int) = 16384 * m.bk.banks
 bRom : Byts m.rom
 lRam : (m.ram.length : Int) = m.bk.ram
 bRam : Byts m.ram
 lWork : m.work.length = 8192
 bWork : Byts m.work
 lHigh : m.high.length = 127
 bHigh : Byts m.high
structure MmOk (n : Nat) (m : Mm) : Prop where
 wf : m.Wf
 room : m.acc.length + n ≤ 1000000
 accs : ∀ e ∈ m.acc, (0 ≤ e.addr ∧ e.addr < 65536) ∧ 0 ≤ e.val ∧ e.val < 256
section
variable {m : Mm}
theorem Mm.Wf.flags_ (h : m.Wf) {x : Int} (hx : 0 ≤ x ∧ x < 256) : ({ m with flags := x } : Mm).Wf := ⟨h.bk, h.ck, h.tm, h.pd, h.pt, h.cp, h.bd, hx, h.lets, h.steps, h.cycles, h.u, h.banks, h.lRom, h.bRom, h.lRam, h.bRam, h.lWork, h.bWork, h.lHigh, h.bHigh⟩
theorem Mm.Wf.lets_ (h : m.Wf) {x : Int} (hx : 0 ≤ x ∧ x < 256) : ({ m with lets := x } : Mm).Wf := ⟨h.bk, h.ck, h.tm, h.pd, h.pt, h.cp, h.bd, h.flags, hx, h.steps, h.cycles, h.u, h.banks, h.lRom, h.bRom, h.lRam, h.bRam, h.lWork, h.bWork, h.lHigh, h.bHigh⟩
theorem Mm.Wf.tm_ (h : m.Wf) {x : Tm} (hx : x.Ok) : ({ m with tm := x } : Mm).Wf := ⟨h.bk, h.ck, hx, h.pd, h.pt, h.cp, h.bd, h.flags, h.lets, h.steps, h.cycles, h.u, h.banks, h.lRom, h.bRom, h.lRam, h.bRam, h.lWork, h.bWork, h.lHigh, h.bHigh⟩
theorem Mm.Wf.ck_ (h : m.Wf) {x : Ck} (hx : x.Ok) : ({ m with ck := x } : Mm).Wf := ⟨h.bk, hx, h.tm, h.pd, h.pt, h.cp, h.bd, h.flags, h.lets, h.steps, h.cycles, h.u, h.banks, h.lRom, h.bRom, h.lRam, h.bRam, h.lWork, h.bWork, h.lHigh, h.bHigh⟩
theorem Mm.Wf.pd_ (h : m.Wf) {x : Pd} (hx : x.Ok) : ({ m with pd := x } : Mm).Wf := ⟨h.bk, h.ck, h.tm, hx, h.pt, h.cp, h.bd, h.flags, h.lets, h.steps, h.cycles, h.u, h.banks, h.lRom, h.bRom, h.lRam, h.bRam, h.lWork, h.bWork, h.lHigh, h.bHigh⟩
theorem Mm.Wf.pt_ (h : m.Wf) {x : Pt} (hx : x.Ok) : ({ m with pt := x } : Mm).Wf := ⟨h.bk, h.ck, h.tm, h.pd, hx, h.cp, h.bd, h.flags, h.lets, h.steps, h.cycles, h.u, h.banks, h.lRom, h.bRom, h.lRam, h.bRam, h.lWork, h.bWork, h.lHigh, h.bHigh⟩
theorem Mm.Wf.cp_ (h : m.Wf) {x : Cp} (hx : x.Ok) : ({ m with cp := x } : Mm).Wf := ⟨h.bk, h.ck, h.tm, h.pd, h.pt, hx, h.bd, h.flags, h.lets, h.steps, h.cycles, h.u, h.banks, h.lRom, h.bRom, h.lRam, h.bRam, h.lWork, h.bWork, h.lHigh, h.bHigh⟩
theorem Mm.Wf.bd_ (h : m.Wf) {x : Bd} (hx : x.Wf) : ({ m with bd := x } : Mm).Wf := ⟨h.bk, h.ck, h.tm, h.pd, h.pt, h.cp, hx, h.flags, h.lets, h.steps, h.cycles, h.u, h.banks, h.lRom, h.bRom, h.lRam, h.bRam, h.lWork, h.bWork, h.lHigh, h.bHigh⟩
theorem Mm.Wf.u_ (h : m.Wf) {x : PU} (hx : x.Ok) : ({ m with u := x } : Mm).Wf := ⟨h.bk, h.ck, h.tm, h.pd, h.pt, h.cp, h.bd, h.flags, h.lets, h.steps, h.cycles, hx, h.banks, h.lRom, h.bRom, h.lRam, h.bRam, h.lWork, h.bWork, h.lHigh, h.bHigh⟩
theorem Mm.Wf.cycles_ (h : m.Wf) {x : Int} (hx : 0 ≤ x ∧ x < 18446744073709551616) : ({ m with cycles := x } : Mm).Wf := ⟨h.bk, h.ck, h.tm, h.pd, h.pt, h.cp, h.bd, h.flags, h.lets, h.steps, hx, h.u, h.banks, h.lRom, h.bRom, h.lRam, h.bRam, h.lWork, h.bWork, h.lHigh, h.bHigh⟩
theorem Mm.Wf.steps_ (h : m.Wf) {x : Int} (hx : 0 ≤ x ∧ x < 18446744073709551616) (s : CS) : ({ m with cpu := s, steps := x } : Mm).Wf := ⟨h.bk, h.ck, h.tm, h.pd, h.pt, h.cp, h.bd, h.flags, h.lets, hx, h.cycles, h.u, h.banks, h.lRom, h.bRom, h.lRam, h.bRam, h.lWork, h.bWork, h.lHigh, h.bHigh⟩
theorem Mm.Wf.acc_ (h : m.Wf) (x : List Ac) : ({ m with acc := x } : Mm).Wf := ⟨h.bk, h.ck, h.tm, h.pd, h.pt, h.cp, h.bd, h.flags, h.lets, h.steps, h.cycles, h.u, h.banks, h.lRom, h.bRom, h.lRam, h.bRam, h.lWork, h.bWork, h.lHigh, h.bHigh⟩
theorem Mm.Wf.ram_ (h : m.Wf) (n : Nat) {x : Int} (hx : 0 ≤ x ∧ x < 256) : ({ m with ram := m.ram.set n x } : Mm).Wf := ⟨h.bk, h.ck, h.tm, h.pd, h.pt, h.cp, h.bd, h.flags, h.lets, h.steps, h.cycles, h.u, h.banks, h.lRom, h.bRom, by show ((m.ram.set n x).length : Int) = _; rw [List.length_set]; exact h.lRam, byts_set h.bRam n hx, h.lWork, h.bWork, h.lHigh, h.bHigh⟩
theorem Mm.Wf.work_ (h : m.Wf) (n : Nat) {x : Int} (hx : 0 ≤ x ∧ x < 256) : ({ m with work := m.work.set n x } : Mm).Wf := ⟨h.bk, h.ck, h.tm, h.pd, h.pt, h.cp, h.bd, h.flags, h.lets, h.steps, h.cycles, h.u, h.banks, h.lRom, h.bRom, h.lRam, h.bRam, by show (m.work.set n x).length = _; rw [List.length_set]; exact h.lWork, byts_set h.bWork n hx, h.lHigh, h.bHigh⟩
theorem Mm.Wf.high_ (h : m.Wf) (n : Nat) {x : Int} (hx : 0 ≤ x ∧ x < 256) : ({ m with high := m.high.set n x } : Mm).Wf := ⟨h.bk, h.ck, h.tm, h.pd, h.pt, h.cp, h.bd, h.flags, h.lets, h.steps, h.cycles, h.u, h.banks, h.lRom, h.bRom, h.lRam, h.bRam, h.lWork, h.bWork, by show (m.high.set n x).length = _; rw [List.length_set]; exact h.lHigh, byts_set h.bHigh n hx⟩
theorem Mm.Wf.bk_ (h : m.Wf) (a : Int) {x : Int} (hx : 0 ≤ x ∧ x < 256) : ({ m with bk := writeB a x m.bk } : Mm).Wf := by
 obtain ⟨h1, h2, h3⟩ := writeB_same a x m.bk
 exact ⟨h.bk.write a hx, h.ck, h.tm, h.pd, h.pt, h.cp, h.bd, h.flags, h.lets, h.steps, h.cycles, h.u, by show 0 < (writeB a x m.bk).banks; rw [h2]; exact h.banks, by show _ = 16384 * (writeB a x m.bk).banks; rw [h2]; exact h.lRom, h.bRom, by show _ = (writeB a x m.bk).ram; rw [h3]; exact h.lRam, h.bRam, h.lWork, h.bWork, h.lHigh, h.bHigh⟩
theorem Mm.Wf.ask (h : m.Wf) (k : Int) (is : Bool) : (askM k is m).Wf := by unfold askM; split; exact h.flags_ (bor8_ok _ _); exact h
theorem Mm.Wf.latch (h : m.Wf) (is : Bool) : (latchM is m).Wf := by unfold latchM; split; exact h.ck_ h.ck.hold; exact h
theorem Mm.Wf.save (h : m.Wf) (a : Int) {x : Int} (hx : 0 ≤ x ∧ x < 256) : (saveM a x m).Wf := by
 unfold saveM
 split
 ·exact h.ck_ (h.ck.write _ hx)
 split
 ·exact h
 ·exact h.ram_ _ hx
theorem Mm.Wf.setDevice (h : m.Wf) (a : Int) {x : Int} (hx : 0 ≤ x ∧ x < 256) : (setDeviceM a x m).Wf := by
 unfold setDeviceM
 split
 ·exact (h.pd_ (h.pd.sel_ x)).ask _ _
 split
 ·exact h.pt_ (h.pt.write _ hx)
 split
 ·exact h.tm_ (h.tm.write _ hx)
 split
 ·exact h.flags_ (band8_ok _ _)
 split
 ·exact h.bd_ (h.bd.write _ hx)
 split
 ·exact h.cp_ ⟨hx, show (0 : Int) ≤ 160 ∧ (160 : Int) < 65536 by decide⟩
 split
 ·exact h.lets_ hx
 split
 ·exact h.high_ _ hx
 ·exact h
theorem Mm.Wf.poke (h : m.Wf) (a : Int) {x : Int} (hx : 0 ≤ x ∧ x < 256) : (pokeM a x m).Wf := by
 unfold pokeM
 split
 ·exact (h.bk_ a hx).latch _
 split
 ·exact (h.u_ (h.u.write hx)).ask _ _
 split
 ·exact h.save a hx
 split
 ·exact h.work_ _ hx
 split
 ·exact h
 ·exact h.setDevice a hx
theorem savedM_ok (h : m.Wf) (a : Int) : 0 ≤ savedM a m ∧ savedM a m < 256 := by
 unfold savedM
 split
 ·exact readCk_ok h.ck _
 split
 ·decide
 split
 ·exact bor8_ok _ _
 ·exact h.bRam.get _
theorem deviceM_ok (h : m.Wf) (a : Int) : 0 ≤ deviceM a m ∧ deviceM a m < 256 := by
 unfold deviceM
 split; exact readPd_ok _
 split; exact readPt_ok h.pt _
 split; exact readTm_ok h.tm _
 split; exact bor8_ok _ _
 split; exact readB_ok h.bd _
 split; exact h.cp.page
 split; exact h.lets
 split; exact h.bHigh.get _
 decide
theorem statU_ok (u : PU) : 0 ≤ statU u ∧ statU u < 256 := bor8_ok _ _
theorem peekU_ok {u : PU} (h : u.Wf) (a : Int) : 0 ≤ peekU u a ∧ peekU u a < 256 := by
 unfold peekU
 repeat' split
 all_goals first | exact h.bV.get _ | exact h.bO.get _ | exact h.bR.get _ | exact bor8_ok _ _ | exact statU_ok u | omega
theorem readU_ok {u : PU} (h : u.Wf) (a : Int) : 0 ≤ readU u a ∧ readU u a < 256 := by
 unfold readU
 repeat' split
 all_goals first | exact peekU_ok h a | omega
theorem peekM_ok (h : m.Wf) (a : Int) : 0 ≤ peekM a m ∧ peekM a m < 256 := by
 unfold peekM
 split; exact h.bRom.get _
 split; exact peekU_ok h.u.wf _
 split; exact savedM_ok h _
 split; exact h.bWork.get _
 split; decide
 exact deviceM_ok h _
theorem seenM_ok (h : m.Wf) (a : Int) : 0 ≤ seenM a m ∧ seenM a m < 256 := by
 unfold seenM
 split; decide
 split; exact readU_ok h.u.wf _
 exact peekM_ok h _
theorem Mm.Wf.cyc1W (h : m.Wf) : (cyc1 m).Wf := Mm.Wf.ask (m := { m with cycles := (m.cycles + 1) % 18446744073709551616, tm := tickTm m.tm }) ((h.cycles_ (x := (m.cycles + 1) % 18446744073709551616) o_m).tm_ h.tm.tick) _ _
theorem Mm.Wf.cyc2W (h : m.Wf) : (cyc2 m).Wf := (h.pt_ h.pt.tick).ask _ _
theorem Mm.Wf.cyc3W (h : m.Wf) : (cyc3 m).Wf := by
 unfold cyc3
 split
 ·exact Mm.Wf.u_ (m := { m with cp := tickCp m.cp }) (h.cp_ h.cp.tick) (h.u.sprite _ (peekM_ok (h.cp_ h.cp.tick) _))
 ·exact h
theorem Mm.Wf.cyc4W (h : m.Wf) : (cyc4 m).Wf := h.bd_ h.bd.tick
theorem Mm.Wf.cyc5W (h : m.Wf) : (cyc5 m).Wf := ((h.u_ h.u.tick).ask _ _).ask _ _
theorem Mm.Wf.cyc6W (h : m.Wf) : (cyc6 m).Wf := by unfold cyc6; split; exact h.ck_ h.ck.tick; exact h
theorem Mm.Wf.cycle (h : m.Wf) : (cycleM m).Wf := h.cyc1W.cyc2W.cyc3W.cyc4W.cyc5W.cyc6W
theorem askM_acc (k : Int) (is : Bool) (m : Mm) : (askM k is m).acc = m.acc := by unfold askM; split <;> rfl
theorem cycleM_acc (m : Mm) : (cycleM m).acc = m.acc := by
 unfold cycleM cyc6 cyc5 cyc4 cyc3 cyc2 cyc1
 repeat' split
 all_goals simp only [askM_acc]
theorem latchM_acc (is : Bool) (m : Mm) : (latchM is m).acc = m.acc := by unfold latchM; split <;> rfl
theorem saveM_acc (a x : Int) (m : Mm) : (saveM a x m).acc = m.acc := by
 unfold saveM
 split
 ·rfl
 split <;> rfl
theorem setDeviceM_acc (a x : Int) (m : Mm) : (setDeviceM a x m).acc = m.acc := by
 unfold setDeviceM
 split
 ·exact askM_acc _ _ _
 repeat' split
 all_goals rfl
theorem pokeM_acc (a x : Int) (m : Mm) : (pokeM a x m).acc = m.acc := by
 unfold pokeM
 split
 ·exact latchM_acc _ _
 split
 ·exact askM_acc _ _ _
 split
 ·exact saveM_acc _ _ _
 split
 ·rfl
 split
 ·rfl
 ·exact setDeviceM_acc _ _ _
theorem MmOk.cycle {n : Nat} (h : MmOk n m) : MmOk n (cycleM m) := ⟨h.wf.cycle, by rw [cycleM_acc]; exact h.room, by rw [cycleM_acc]; exact h.accs⟩
theorem MmOk.note {n : Nat} (h : MmOk (n + 1) m) (k : Int) {a x : Int} (ha : 0 ≤ a ∧ a < 65536) (hx : 0 ≤ x ∧ x < 256) : MmOk n (noteM k a x m) := ⟨h.wf.acc_ _, by have := h.room; simp only [noteM, List.length_append, List.length_singleton]; omega, fun e he => by
 rcases List.mem_append.1 he with he | he
 ·exact h.accs e he
 ·rw [List.mem_singleton.1 he]; exact ⟨ha, hx⟩⟩
theorem MmOk.poke {n : Nat} (h : MmOk n m) (a : Int) {x : Int} (hx : 0 ≤ x ∧ x < 256) : MmOk n (pokeM a x m) := ⟨h.wf.poke a hx, by rw [pokeM_acc]; exact h.room, by rw [pokeM_acc]; exact h.accs⟩
theorem MmOk.le {n k : Nat} (h : MmOk n m) (hk : k ≤ n) : MmOk k m := ⟨h.wf, by have := h.room; omega, h.accs⟩
theorem MmOk.get {n : Nat} (h : MmOk (n + 1) m) (k : Int) {a : Int} (ha : 0 ≤ a ∧ a < 65536) : MmOk n (noteM k a (seenM a (cycleM m)) (cycleM m)) := h.cycle.note k ha (seenM_ok h.wf.cycle a)
theorem MmOk.write {n : Nat} (h : MmOk (n + 1) m) {a x : Int} (ha : 0 ≤ a ∧ a < 65536) (hx : 0 ≤ x ∧ x < 256) : MmOk n (busM.write a x m) := by
 show MmOk n (noteM 2 a x (if letsCp (cycleM m).cp a = true then pokeM a x (cycleM m) else cycleM m))
 split
 ·exact (h.cycle.poke a hx).note 2 ha hx
 ·exact h.cycle.note 2 ha hx
theorem MmOk.ack {n : Nat} (h : MmOk n m) {k : Int} (hk : 0 ≤ k ∧ k < 5) : MmOk n (busM.ack k m) := ⟨h.wf.flags_ (bits_ok h.wf.flags ⟨hk.1, y_D⟩).1, h.room, h.accs⟩
theorem pendM_ok (m : Mm) : 0 ≤ busM.pend m ∧ busM.pend m < 32 := by
 have key : ∀ y : Int, 0 ≤ y ∧ y < 256 → (0 ≤ band .u8 y 31 ∧ band .u8 y 31 < 32) := fun y hy => byte_all (p := fun y => 0 ≤ band .u8 y 31 ∧ band .u8 y 31 < 32) y_A hy.1 hy.2
 exact key _ (band8_ok _ _)
theorem Mm.Wf.press (h : m.Wf) {x : Int} (hx : 0 ≤ x ∧ x < 256) : (pressM x m).Wf := (h.pd_ (h.pd.press hx)).ask _ _
theorem Mm.Wf.start (h : m.Wf) {l : List Chg} (hl : ∀ c ∈ l, ChgOk c) : (startM l m).Wf := (h.press (planAt_ok hl _)).acc_ []
end
theorem ofInt64 (n : Int) : ((BitVec.ofInt 64 n).toNat : Int) = n % 18446744073709551616 := by
 rw [BitVec.toNat_ofInt]
 have : (0 : Int) ≤ n % 18446744073709551616 := Int.emod_nonneg _ y_c
 exact Int.toNat_of_nonneg this
theorem nat_hi (a : Nat) (h : a < 18446744073709551616) : a &&& 18446744073709551360 = a / 256 * 256 := by
 have h1 : (18446744073709551360 : Nat) = (2 ^ 56 - 1) <<< 8 := by decide
 have h2 : a / 256 * 256 = (a >>> 8) <<< 8 := by rw [Nat.shiftLeft_eq, Nat.shiftRight_eq_div_pow]
 rw [h1, h2]
 refine Nat.eq_of_testBit_eq fun i => ?_
 rw [Nat.testBit_and, Nat.testBit_shiftLeft, Nat.testBit_shiftLeft, Nat.testBit_two_pow_sub_one, Nat.testBit_shiftRight]
 by_cases h8 : 8 ≤ i
 ·have h9 : 8 + (i - 8) = i := by omega
  rw [h9]
  by_cases h64 : i - 8 < 56
  ·simp [h8, h64]
  ·have : a.testBit i = false := Nat.testBit_lt_two_pow (Nat.lt_of_lt_of_le h (Nat.le_trans (by decide : 18446744073709551616 ≤ 2 ^ 64) (Nat.pow_le_pow_right y_c o_m)))
   simp [this]
 ·simp [h8]
theorem bandn_hi {n : Int} (h1 : -9223372036854775808 ≤ n) (h2 : n ≤ 9223372036854775807) : bandn .i64 n 255 = n / 256 * 256 := by
 have ha := ofInt64 n
 have hb : (BitVec.ofInt 64 n &&& ~~~BitVec.ofInt 64 255).toNat = (BitVec.ofInt 64 n).toNat / 256 * 256 := by
  rw [BitVec.toNat_and]
  exact nat_hi _ (BitVec.isLt _)
 show IntKind.i64.wrap ((BitVec.ofInt 64 n &&& ~~~BitVec.ofInt 64 255).toNat : Int) = _
 rw [hb, wrapI64]
 omega
theorem nat_join (q x : Nat) (hx : x < 256) : (256 * q) ||| x = 256 * q + x := (Nat.two_pow_add_eq_or_of_lt (i := 8) hx q).symm
theorem bor_join {A x : Int} (hA : A % 256 = 0) (h1 : -9223372036854775808 ≤ A) (h2 : A ≤ 9223372036854775807) (hx : 0 ≤ x ∧ x < 256) : bor .i64 A x = A + x := by
 have ha := ofInt64 A
 have hxx := ofInt64 x
 have hb : (BitVec.ofInt 64 A ||| BitVec.ofInt 64 x).toNat = (BitVec.ofInt 64 A).toNat + (BitVec.ofInt 64 x).toNat := by
  rw [BitVec.toNat_or]
  have hq : (BitVec.ofInt 64 A).toNat = 256 * ((BitVec.ofInt 64 A).toNat / 256) := by omega
  rw [hq]
  exact nat_join _ _ o_m
 show IntKind.i64.wrap ((BitVec.ofInt 64 A ||| BitVec.ofInt 64 x).toNat : Int) = _
 rw [hb, wrapI64]
 omega
theorem bor_join' {A x : Int} (hA : A % 256 = 0) (h1 : -9223372036854775808 ≤ A) (h2 : A ≤ 9223372036854775807) (hx : 0 ≤ x ∧ x < 256) : bor .i64 x A = x + A := by
 have := bor_join hA h1 h2 hx
 unfold bor at this ⊢
 rw [BitVec.or_comm, this]; omega
theorem band_255 (n : Int) : band .i64 n 255 = n % 256 := band_low n 8 y_c
def atT (o : Option Int) : Value := match o with
 | none => .tuple #[.int .i64 0, .bool false]
 | some n => .tuple #[.int .i64 n, .bool true]
theorem secCk_at (c : Ck) (y : Int) : secCk { c with sub := y } = { secCk c with sub := y } := by
 unfold secCk dayCk
 repeat' split
 all_goals first | rfl | (exfalso; simp_all; done)
theorem secsCk_next (c : Ck) (k : Nat) : secCk { secsCk c k with sub := (secsCk c k).sub - 1048576 } = secsCk c (k + 1) := secCk_at _ _
theorem bits_law {a : Int} (h : 0 ≤ a ∧ a < 2) (x y : Bool) : bor .u8 (bor .u8 a (bitCk x 64)) (bitCk y 128) = a + bitCk x 64 + bitCk y 128 := by
 rcases (show a = 0 ∨ a = 1 by omega) with rfl | rfl <;> cases x <;> cases y <;> decide
theorem hi5_law {x : Int} (h : 0 ≤ x ∧ x < 256) : band .u8 x 248 = x / 8 * 8 := byte_all (p := fun x => band .u8 x 248 = x / 8 * 8) y_A h.1 h.2
theorem shl1_law {x : Int} (h : 0 ≤ x ∧ x < 256) : bor .u8 (x * 2 % 256) 1 = x % 128 * 2 + 1 := byte_all (p := fun x => bor .u8 (x * 2 % 256) 1 = x % 128 * 2 + 1) y_A h.1 h.2
theorem low7_law {x : Int} (h : 0 ≤ x ∧ x < 256) : bandn .u8 x 128 = x % 128 := byte_all (p := fun x => bandn .u8 x 128 = x % 128) y_A h.1 h.2
theorem both_law {x : Int} (h : 0 ≤ x ∧ x < 256) : band .u8 x 129 = x / 128 * 128 + x % 2 := byte_all (p := fun x => band .u8 x 129 = x / 128 * 128 + x % 2) y_A h.1 h.2
theorem or126_law {x : Int} (h : 0 ≤ x ∧ x < 256) : bor .u8 x 126 = x / 128 * 128 + 126 + x % 2 := byte_all (p := fun x => bor .u8 x 126 = x / 128 * 128 + 126 + x % 2) y_A h.1 h.2
theorem or248_law {x : Int} (h : 0 ≤ x ∧ x < 256) : bor .u8 x 248 = 248 + x % 8 := byte_all (p := fun x => bor .u8 x 248 = 248 + x % 8) y_A h.1 h.2
section
variable {b : Bd}
theorem flat4 : ∀ (l : List Vc), (flat cVc l).length = 4 * l.length
 | [] => rfl
 | v :: l => by show (cVc v ++ flat cVc l).length = _; rw [List.length_append, flat4 l, cVc_len, List.length_cons]; omega
theorem flat4_at : ∀ (l : List Vc) (n k : Nat) (x : Value), n < l.length → (cVc (l.getD n vcZ))[k]? = some x → (flat cVc l)[n * 4 + k]? = some x
 | v :: l, 0, k, x, _, hx => get_left (A := cVc v) (by simpa using hx)
 | v :: l, n + 1, k, x, hn, hx => get_right (A := cVc v) (n := n * 4 + k) (by rw [cVc_len]; omega) (flat4_at l n k x (by simpa using hn) (by simpa using hx))
theorem flat4_put : ∀ (l : List Vc) (n k : Nat) (x : Value) (y : Vc), n < l.length → k < 4 → (cVc (l.getD n vcZ)).set k x = cVc y → putL (flat cVc l) (n * 4 + k) [x] = flat cVc (l.set n y)
 | v :: l, 0, k, x, y, _, hk, hy => by
  have h1 : putL (cVc v) k [x] = cVc y := by
   rw [← hy, show ((v :: l).getD 0 vcZ) = v from rfl]
   rcases (show k = 0 ∨ k = 1 ∨ k = 2 ∨ k = 3 by omega) with rfl | rfl | rfl | rfl <;> rfl
  show putL (cVc v ++ flat cVc l) (0 * 4 + k) [x] = cVc y ++ flat cVc l
  rw [Nat.zero_mul, Nat.zero_add, putL_left (by rw [cVc_len, List.length_singleton]; omega), h1]
 | v :: l, n + 1, k, x, y, hn, hk, hy => by
  show putL (cVc v ++ flat cVc l) ((n + 1) * 4 + k) [x] = cVc v ++ flat cVc (l.set n y)
  have hn' : n < l.length := by simpa using hn
  rw [putL_right (n := n * 4 + k) (by rw [cVc_len]; omega) (by rw [flat4, List.length_singleton]; omega), flat4_put l n k x y hn' hk (by simpa using hy)]
structure Bd.Ln (b : Bd) : Prop where
 lR : b.regs.length = 48
 bR : Byts b.regs
 lV : b.vs.length = 4
theorem Bd.Wf.ln (h : b.Wf) : b.Ln := ⟨h.lR, h.bR, h.lV⟩
instance : Coe b.Wf b.Ln := ⟨Bd.Wf.ln⟩
theorem Bd.Ln.r_ (h : b.Ln) (n : Nat) : 0 ≤ b.r n ∧ b.r n < 256 := h.bR.get n
theorem Bd.Ln.setV (h : b.Ln) (n : Nat) (x : Vc) : (b.setV n x).Ln := ⟨h.lR, h.bR, y_de⟩
theorem Bd.Ln.slide_ (h : b.Ln) (x : Int) : ({ b with slide := x } : Bd).Ln := ⟨h.lR, h.bR, h.lV⟩
theorem cBd_len (h : b.Ln) : (cBd b).length = 70 := by simp [cBd, h.lR, h.lV, flat4]
theorem cBd_r (h : b.Ln) {j : Nat} (hj : j < 48) : (cBd b)[j]? = some (.int .u8 (b.r j)) := get_left (map_at y_cP)
theorem cBd_three (h : b.Ln) {j : Nat} {v : Value} (hv : ([.bool b.on, .int .i64 b.div, .int .i64 b.step] : List Value)[j]? = some v) : (cBd b)[48 + j]? = some v := get_right (n := j) y_bR (get_left hv)
theorem cBd_on (h : b.Ln) : (cBd b)[48]? = some (.bool b.on) := cBd_three h (j := 0) rfl
theorem cBd_div (h : b.Ln) : (cBd b)[49]? = some (.int .i64 b.div) := cBd_three h (j := 1) rfl
theorem cBd_step (h : b.Ln) : (cBd b)[50]? = some (.int .i64 b.step) := cBd_three h (j := 2) rfl
theorem cBd_v (h : b.Ln) {n k : Nat} {x : Value} (hn : n < 4) (hx : (cVc (b.v n))[k]? = some x) : (cBd b)[51 + n * 4 + k]? = some x := by
 rw [Nat.add_assoc]
 exact get_right (n := 3 + (n * 4 + k)) y_bA (get_right (n := n * 4 + k) rfl (get_left (flat4_at _ _ _ _ (by rw [h.lV]; exact hn) hx)))
theorem cBd_last (h : b.Ln) {j : Nat} {v : Value} (hv : ([.int .i64 b.pitch, .int .i64 b.slide, .bool b.slides] : List Value)[j]? = some v) : (cBd b)[67 + j]? = some v :=
 get_right (n := 19 + j) y_bA (get_right (n := 16 + j) (by show 19 + j = 3 + (16 + j); omega) (get_right (n := j) (by rw [flat4, h.lV]) hv))
theorem cBd_pitch (h : b.Ln) : (cBd b)[67]? = some (.int .i64 b.pitch) := cBd_last h (j := 0) rfl
theorem cBd_slide (h : b.Ln) : (cBd b)[68]? = some (.int .i64 b.slide) := cBd_last h (j := 1) rfl
theorem cBd_slides (h : b.Ln) : (cBd b)[69]? = some (.bool b.slides) := cBd_last h (j := 2) rfl
theorem putBd_r (h : b.Ln) {j : Nat} (hj : j < 48) (x : Int) : putL (cBd b) j [.int .u8 x] = cBd (putB j x b) := by
 unfold cBd
 rw [putL_left (by rw [List.length_map, h.lR, List.length_singleton]; omega), putL_int .u8 y_cP]
 rfl
theorem putBd_three (h : b.Ln) {j : Nat} {v : Value} (hj : j < 3) : putL (cBd b) (48 + j) [v] = b.regs.map (.int .u8) ++ (putL [.bool b.on, .int .i64 b.div, .int .i64 b.step] j [v] ++ (flat cVc b.vs ++ [.int .i64 b.pitch, .int .i64 b.slide, .bool b.slides])) := by
 unfold cBd
 rw [putL_right (n := j) y_bR y_bz, putL_left y_bz]
theorem putBd_on (h : b.Ln) (x : Bool) : putL (cBd b) 48 [.bool x] = cBd { b with on := x } := putBd_three h (j := 0) y_c
theorem putBd_div (h : b.Ln) (x : Int) : putL (cBd b) 49 [.int .i64 x] = cBd { b with div := x } := putBd_three h (j := 1) y_c
theorem putBd_step (h : b.Ln) (x : Int) : putL (cBd b) 50 [.int .i64 x] = cBd { b with step := x } := putBd_three h (j := 2) y_c
theorem putBd_v (h : b.Ln) {n k : Nat} {x : Value} {y : Vc} (hn : n < 4) (hk : k < 4) (hy : (cVc (b.v n)).set k x = cVc y) : putL (cBd b) (51 + n * 4 + k) [x] = cBd (b.setV n y) := by
 rw [Nat.add_assoc]
 unfold cBd
 rw [putL_right (n := 3 + (n * 4 + k)) y_bA y_cR, putL_right (A := [.bool b.on, .int .i64 b.div, .int .i64 b.step]) (o := 3 + (n * 4 + k)) (n := n * 4 + k) rfl y_cR, putL_left (by rw [flat4, h.lV, List.length_singleton]; omega),
  flat4_put b.vs n k x y (by rw [h.lV]; exact hn) hk hy]
 rfl
theorem putBd_last (h : b.Ln) {j : Nat} {v : Value} (hj : j < 3) : putL (cBd b) (67 + j) [v] = b.regs.map (.int .u8) ++ ([.bool b.on, .int .i64 b.div, .int .i64 b.step] ++ (flat cVc b.vs ++ putL [.int .i64 b.pitch, .int .i64 b.slide, .bool b.slides] j [v])) := by
 unfold cBd
 rw [putL_right (n := 19 + j) y_bA y_cR, putL_right (A := [.bool b.on, .int .i64 b.div, .int .i64 b.step]) (o := 19 + j) (n := 16 + j) (by show 19 + j = 3 + (16 + j); omega) y_cR, putL_right (n := j) (by rw [flat4, h.lV]) y_bz]
theorem putBd_pitch (h : b.Ln) (x : Int) : putL (cBd b) 67 [.int .i64 x] = cBd { b with pitch := x } := putBd_last h (j := 0) y_c
theorem putBd_slide (h : b.Ln) (x : Int) : putL (cBd b) 68 [.int .i64 x] = cBd { b with slide := x } := putBd_last h (j := 1) y_c
theorem putBd_slides (h : b.Ln) (x : Bool) : putL (cBd b) 69 [.bool x] = cBd { b with slides := x } := putBd_last h (j := 2) y_c
theorem v_set (h : b.Ln) {n : Nat} (hn : n < 4) (x : Vc) : (b.setV n x).v n = x := by
 unfold Bd.v Bd.setV
 rw [List.getD_eq_getElem?_getD, List.getElem?_set_self (by rw [h.lV]; exact hn)]; rfl
theorem setV_same (h : b.Ln) {n : Nat} (hn : n < 4) : b.setV n (b.v n) = b := by
 have hl : n < b.vs.length := by rw [h.lV]; exact hn
 have h1 : b.v n = b.vs[n] := by unfold Bd.v; rw [List.getD_eq_getElem?_getD, List.getElem?_eq_getElem hl]; rfl
 show ({ b with vs := b.vs.set n (b.v n) } : Bd) = b
 rw [h1, List.set_getElem_self]
theorem setV_setV (b : Bd) (n : Nat) (x y : Vc) : (b.setV n x).setV n y = b.setV n y := by unfold Bd.setV; dsimp only; rw [List.set_set]
theorem levV_wait {v : Nat} {x : Vc} (h : ¬ (v = 2 ∨ b.r (5 * v + 2) % 8 = 0)) (h2 : 0 < x.wait - 1) : levV b v x = { x with wait := x.wait - 1 } := by unfold levV; rw [if_neg h, if_pos h2]
theorem levV_up {v : Nat} {x : Vc} (h : ¬ (v = 2 ∨ b.r (5 * v + 2) % 8 = 0)) (h2 : ¬ 0 < x.wait - 1) (h3 : b.r (5 * v + 2) / 8 % 2 = 1) : levV b v x = { x with wait := b.r (5 * v + 2) % 8, lev := min (x.lev + 1) 15 } := by unfold levV; rw [if_neg h, if_neg h2, if_pos h3]
theorem levV_down {v : Nat} {x : Vc} (h : ¬ (v = 2 ∨ b.r (5 * v + 2) % 8 = 0)) (h2 : ¬ 0 < x.wait - 1) (h3 : ¬ b.r (5 * v + 2) / 8 % 2 = 1) : levV b v x = { x with wait := b.r (5 * v + 2) % 8, lev := max (x.lev - 1) 0 } := by unfold levV; rw [if_neg h, if_neg h2, if_neg h3]
theorem slideB_off (h : b.slides = false) : slideB b = b := if_pos h
section
variable (h1 : b.slides = true)
include h1
theorem slideB_wait (h2 : 0 < b.slide - 1) : slideB b = { b with slide := b.slide - 1 } := by unfold slideB; rw [if_neg y_ct, if_pos h2]
theorem slideB_zero (h2 : ¬ 0 < b.slide - 1) (h3 : everyB b = 0) : slideB b = waitB { b with slide := b.slide - 1 } := by unfold slideB; rw [if_neg y_ct, if_neg h2]; dsimp only; rw [if_pos h3]
theorem slideB_high (h2 : ¬ 0 < b.slide - 1) (h3 : ¬ everyB b = 0) (h4 : highB (waitB { b with slide := b.slide - 1 }) = true) : slideB b = checkB (waitB { b with slide := b.slide - 1 }) := by unfold slideB checkB; rw [if_neg y_ct, if_neg h2]; dsimp only; rw [if_neg h3, if_pos h4, if_pos h4]
theorem slideB_by (h2 : ¬ 0 < b.slide - 1) (h3 : ¬ everyB b = 0) (h4 : highB (waitB { b with slide := b.slide - 1 }) = false) (h5 : byB b = 0) : slideB b = waitB { b with slide := b.slide - 1 } := by unfold slideB; rw [if_neg y_ct, if_neg h2]; dsimp only; rw [if_neg h3, if_neg y_dH, if_pos h5]
theorem slideB_end (h2 : ¬ 0 < b.slide - 1) (h3 : ¬ everyB b = 0) (h4 : highB (waitB { b with slide := b.slide - 1 }) = false) (h5 : ¬ byB b = 0) : slideB b = checkB (tuneB (waitB { b with slide := b.slide - 1 })) := by unfold slideB; rw [if_neg y_ct, if_neg h2]; dsimp only; rw [if_neg h3, if_neg y_dH, if_neg h5]
end
theorem check_no (h : highB b = false) : checkB b = b := by unfold checkB; rw [if_neg (by rw [h]; decide)]
theorem waitW2 (h : b.Wf) : (waitB { b with slide := b.slide - 1 }).Wf := by
 have := every_ok b
 exact ⟨h.lR, h.bR, h.lV, h.div, h.step, h.oV, h.pitch, y_cn⟩
theorem or3_law {x y : Int} (hx : 0 ≤ x ∧ x < 256) (hy : 0 ≤ y ∧ y < 8) : bor .u8 (x / 8 * 8) y = x / 8 * 8 + y := by
 rcases (show y = 0 ∨ y = 1 ∨ y = 2 ∨ y = 3 ∨ y = 4 ∨ y = 5 ∨ y = 6 ∨ y = 7 by omega) with rfl | rfl | rfl | rfl | rfl | rfl | rfl | rfl
 ·exact byte_all (p := fun x => bor .u8 (x / 8 * 8) 0 = x / 8 * 8 + 0) y_A hx.1 hx.2
 ·exact byte_all (p := fun x => bor .u8 (x / 8 * 8) 1 = x / 8 * 8 + 1) y_A hx.1 hx.2
 ·exact byte_all (p := fun x => bor .u8 (x / 8 * 8) 2 = x / 8 * 8 + 2) y_A hx.1 hx.2
 ·exact byte_all (p := fun x => bor .u8 (x / 8 * 8) 3 = x / 8 * 8 + 3) y_A hx.1 hx.2
 ·exact byte_all (p := fun x => bor .u8 (x / 8 * 8) 4 = x / 8 * 8 + 4) y_A hx.1 hx.2
 ·exact byte_all (p := fun x => bor .u8 (x / 8 * 8) 5 = x / 8 * 8 + 5) y_A hx.1 hx.2
 ·exact byte_all (p := fun x => bor .u8 (x / 8 * 8) 6 = x / 8 * 8 + 6) y_A hx.1 hx.2
 ·exact byte_all (p := fun x => bor .u8 (x / 8 * 8) 7 = x / 8 * 8 + 7) y_A hx.1 hx.2
theorem andn7_law {x : Int} (h : 0 ≤ x ∧ x < 256) : bandn .u8 x 7 = x / 8 * 8 := byte_all (p := fun x => bandn .u8 x 7 = x / 8 * 8) y_A h.1 h.2
theorem or_ne {x y : Int} (hx : 0 ≤ x ∧ x < 8) (hy : 0 ≤ y ∧ y < 8) : (bor .i64 x y != 0) = decide (x ≠ 0 ∨ y ≠ 0) := by
 have key : ∀ a b : Fin 8, (bor .i64 (a.val : Int) (b.val : Int) != 0) = decide ((a.val : Int) ≠ 0 ∨ (b.val : Int) ≠ 0) := by decide +kernel
 have h := key ⟨x.toNat, y_D⟩ ⟨y.toNat, y_D⟩
 rw [show ((x.toNat : Nat) : Int) = x from Int.toNat_of_nonneg hx.1, show ((y.toNat : Nat) : Int) = y from Int.toNat_of_nonneg hy.1] at h
 exact h
theorem ones_cBd (b : Bd) : ones (cBd b) = true := by
 have h4 : ∀ l : List Vc, ones (flat cVc l) = true := fun l => by
  induction l with
  | nil => rfl
  | cons v l ih => show ones (cVc v ++ flat cVc l) = true; unfold ones at ih ⊢; rw [List.all_append, ih]; rfl
 have h1 := ones_int .u8 b.regs
 have h2 := h4 b.vs
 unfold ones at h1 h2 ⊢
 unfold cBd
 rw [List.all_append, List.all_append, List.all_append, h1, h2]
 rfl
theorem putZ (h : b.Ln) : putL (cBd bdZ) 0 (cBd b) = cBd b := by
 unfold putL
 rw [List.take_zero, List.nil_append, Nat.zero_add, List.drop_of_length_le (by rw [cBd_len h, cBd_len bdZ_wf]; decide), List.append_nil]
theorem row_tail {w : World} {bb : Nat} (hr : Row w bb 0 (cBd b)) : Row w bb 22 ((b.regs.drop 22).map (.int .u8)) := fun i v hi => by
 have h1 : (cBd b)[22 + i]? = some v := get_left (by rw [List.map_drop, List.getElem?_drop] at hi; exact hi)
 have := hr (22 + i) v h1
 rwa [Nat.zero_add] at this
theorem off_put (h : b.Ln) : putL (cBd { bdZ with div := b.div, step := b.step }) 22 (((b.regs.drop 22).map (Value.int .u8)).take (min 26 26)) = cBd (offB b) := by
 have hl : ((b.regs.drop 22).map (Value.int .u8)).length = 26 := by rw [List.length_map, List.length_drop, h.lR]
 rw [List.take_of_length_le (by rw [hl]; decide)]
 unfold cBd
 rw [putL_left (by rw [hl]; exact Nat.le_refl 48)]
 have h1 : putL ((List.replicate 48 (0 : Int)).map (Value.int .u8)) 22 ((b.regs.drop 22).map (Value.int .u8)) = (offB b).regs.map (.int .u8) := by
  have e : (offB b).regs = List.replicate 22 0 ++ b.regs.drop 22 := rfl
  have d : List.drop (22 + 26) ((List.replicate 48 (0 : Int)).map (Value.int .u8)) = [] := List.drop_of_length_le (by rw [List.length_map, List.length_replicate]; decide)
  unfold putL
  rw [hl, e, d, List.map_append, List.append_nil]
  rfl
 exact congrArg (· ++ _) h1
theorem flat4_cut : ∀ (l : List Vc) (n : Nat), n < l.length → ((flat cVc l).drop (n * 4)).take 4 = cVc (l.getD n vcZ)
 | v :: l, 0, _ => by show List.take 4 (cVc v ++ flat cVc l) = cVc v; rw [List.take_append_of_le_length (by rw [cVc_len]; exact Nat.le_refl 4)]; rfl
 | v :: l, n + 1, hn => by
  have h1 : (n + 1) * 4 = (cVc v).length + n * 4 := by rw [cVc_len]; omega
  show List.take 4 (List.drop ((n + 1) * 4) (cVc v ++ flat cVc l)) = _
  rw [h1, List.drop_append, List.drop_of_length_le o_m, List.nil_append, show (cVc v).length + n * 4 - (cVc v).length = n * 4 by omega, flat4_cut l n (by simpa using hn)]
  rfl
theorem row_vs (h : b.Ln) {w : World} {bb : Nat} (hr : Row w bb 0 (cBd b)) : Row w bb 51 (flat cVc b.vs) := fun i v hi => by
 have h1 : (cBd b)[51 + i]? = some v := get_right (n := 3 + i) y_bA (get_right (A := [.bool b.on, .int .i64 b.div, .int .i64 b.step]) (n := i) rfl (get_left hi))
 have := hr (51 + i) v h1
 rwa [Nat.zero_add] at this
theorem or_on (b : Bd) {n : Nat} (hn : n < 4) (h : (b.v n).on = true) : bor .u8 (onV b n) (2 ^ n) = onV b (n + 1) := by
 have key : ∀ a x y z : Bool, bor .u8 (112 + (if a = true then 128 else 0)) 1 = 112 + (if a = true then 128 else 0) + 1 ∧ bor .u8 (112 + (if a = true then 128 else 0) + (if x = true then 1 else 0)) 2 = 112 + (if a = true then 128 else 0) + (if x = true then 1 else 0) + 2 ∧
   bor .u8 (112 + (if a = true then 128 else 0) + (if x = true then 1 else 0) + (if y = true then 2 else 0)) 4 = 112 + (if a = true then 128 else 0) + (if x = true then 1 else 0) + (if y = true then 2 else 0) + 4 ∧
   bor .u8 (112 + (if a = true then 128 else 0) + (if x = true then 1 else 0) + (if y = true then 2 else 0) + (if z = true then 4 else 0)) 8 = 112 + (if a = true then 128 else 0) + (if x = true then 1 else 0) + (if y = true then 2 else 0) + (if z = true then 4 else 0) + 8 := by decide +kernel
 have k := key b.on (b.v 0).on (b.v 1).on (b.v 2).on
 rcases (show n = 0 ∨ n = 1 ∨ n = 2 ∨ n = 3 by omega) with rfl | rfl | rfl | rfl
 ·show bor .u8 (onV b 0) 1 = onV b 0 + (if (b.v 0).on = true then 1 else 0); rw [if_pos h]; exact k.1
 ·show bor .u8 (onV b 1) 2 = onV b 1 + (if (b.v 1).on = true then 2 else 0); rw [if_pos h]; exact k.2.1
 ·show bor .u8 (onV b 2) 4 = onV b 2 + (if (b.v 2).on = true then 4 else 0); rw [if_pos h]; exact k.2.2.1
 ·show bor .u8 (onV b 3) 8 = onV b 3 + (if (b.v 3).on = true then 8 else 0); rw [if_pos h]; exact k.2.2.2
theorem onV_no (b : Bd) {n : Nat} (h : (b.v n).on = false) : onV b n = onV b (n + 1) := by
 show onV b n = onV b n + (if (b.v n).on = true then 2 ^ n else 0)
 rw [if_neg (by rw [h]; decide)]; omega
theorem turnV_step (f : Bd → Nat → Vc → Vc) (b : Bd) : ∀ n, (turnV f b n).step = b.step
 | 0 => rfl
 | n + 1 => turnV_step f b n
theorem half_step (b : Bd) : (halfB b).step = b.step := by unfold halfB; split; exact turnV_step _ _ _; rfl
theorem slideB_step (b : Bd) : (slideB b).step = b.step := by
 unfold slideB checkB
 dsimp only
 repeat' split
 all_goals rfl
theorem beat_step (b : Bd) : (beatB b).step = b.step := by
 unfold beatB
 split
 ·rw [slideB_step, half_step]
 split
 ·unfold levelsB; rw [turnV_step, half_step]
 ·exact half_step b
theorem shr_by {x y : Int} (hy : 0 ≤ y ∧ y < 8) (_hx : 0 ≤ x) : shr .i64 x y = x / 2 ^ y.toNat := by
 unfold shr
 have : min y.toNat IntKind.i64.bits = y.toNat := Nat.min_eq_left (by show y.toNat ≤ 64; omega)
 rw [this, Int.fdiv_eq_ediv_of_nonneg]
 exact Int.le_of_lt (Int.pow_pos y_c)
end
structure Ad where
 mb : Nat
 ub : Nat
 rb : Nat
 ob : Nat
 oc : Nat
 sp : List Value
 rc : Nat
 rs : List Value
 plan : Value
 tab : Value
def midM (A : Ad) (m : Mm) : List Value := [.int .u8 m.flags, .int .u8 m.lets, .int .u64 m.steps, .int .u64 m.cycles, .slice (some ⟨A.ob, 0, none⟩) m.rom.length A.oc, A.plan] ++ (cHd m.hd ++ [A.tab, .pointer (some ⟨A.ub, 0, none⟩), .slice (some ⟨A.rb, 0, none⟩) m.ram.length A.rc])
def tailM (A : Ad) (acc : Value) (m : Mm) : List Value := midM A m ++ (m.work.map (.int .u8) ++ (m.high.map (.int .u8) ++ [acc]))
def cMm (A : Ad) (acc : Value) (m : Mm) : List Value := cS m.cpu ++ (cBk m.bk ++ (cCk m.ck ++ (cTm m.tm ++ (cPd m.pd ++ (cPt m.pt ++ (cCp m.cp ++ (cBd m.bd ++ tailM A acc m)))))))
section
variable {A : Ad} {acc : Value} {m : Mm}
def headM (m : Mm) : List Value := cS m.cpu ++ (cBk m.bk ++ (cCk m.ck ++ (cTm m.tm ++ (cPd m.pd ++ (cPt m.pt ++ cCp m.cp)))))
theorem cMm_eq : cMm A acc m = headM m ++ (cBd m.bd ++ tailM A acc m) := rfl
theorem headM_len : (headM m).length = 49 := rfl
theorem midM_len : (midM A m).length = 16 := rfl
structure MLn (m : Mm) : Prop where
 bd : m.bd.Ln
 work : m.work.length = 8192
 high : m.high.length = 127
theorem Mm.Wf.ln (h : m.Wf) : MLn m := ⟨h.bd.ln, h.lWork, h.lHigh⟩
theorem cMm_len (h : MLn m) : (cMm A acc m).length = 8455 := by
 rw [cMm_eq, List.length_append, headM_len, List.length_append, cBd_len h.bd]
 unfold tailM
 rw [List.length_append, midM_len, List.length_append, List.length_map, List.length_append, List.length_map, h.work, h.high, List.length_singleton]
theorem romB_lt (h : m.Wf) {a : Int} (_ha : 0 ≤ a ∧ a < 65536) : 0 ≤ romB a m.bk ∧ romB a m.bk < m.rom.length := by
 have h1 := bankB_ok h.bk a
 have h2 := h1.2.2 h.banks
 have h3 := h.lRom
 unfold romB
 omega
theorem askM_u (k : Int) (is : Bool) (m : Mm) : (askM k is m).u = m.u := by unfold askM; split <;> rfl
theorem cMm_ram (n : Nat) (x : Int) : cMm A acc { m with ram := m.ram.set n x } = cMm A acc m := by
 unfold cMm tailM midM
 dsimp only
 rw [List.length_set]
theorem askM_ram (k : Int) (is : Bool) (m : Mm) : (askM k is m).ram = m.ram := by unfold askM; split <;> rfl
theorem askM_rom (k : Int) (is : Bool) (m : Mm) : (askM k is m).rom = m.rom := by unfold askM; split <;> rfl
theorem setDeviceM_u (a x : Int) (m : Mm) : (setDeviceM a x m).u = m.u := by
 unfold setDeviceM
 split
 ·exact askM_u _ _ _
 repeat' split
 all_goals rfl
theorem setDeviceM_ram (a x : Int) (m : Mm) : (setDeviceM a x m).ram = m.ram := by
 unfold setDeviceM
 split
 ·exact askM_ram _ _ _
 repeat' split
 all_goals rfl
theorem pokeM_rom (a x : Int) (m : Mm) : (pokeM a x m).rom = m.rom := by
 unfold pokeM
 split
 ·unfold latchM; split <;> rfl
 split
 ·exact askM_rom _ _ _
 split
 ·unfold saveM; split
  ·rfl
  split <;> rfl
 split
 ·rfl
 split
 ·rfl
 unfold setDeviceM
 split
 ·exact askM_rom _ _ _
 repeat' split
 all_goals rfl
theorem cyc12_ram (m : Mm) : (cyc2 (cyc1 m)).ram = m.ram := (askM_ram _ _ _).trans (askM_ram _ _ _)
theorem cyc12_rom (m : Mm) : (cyc2 (cyc1 m)).rom = m.rom := (askM_rom _ _ _).trans (askM_rom _ _ _)
theorem cyc3_mem (m : Mm) : (cyc3 m).ram = m.ram ∧ (cyc3 m).rom = m.rom := by unfold cyc3; split <;> exact ⟨rfl, rfl⟩
theorem cyc6_mem (m : Mm) : (cyc6 m).ram = m.ram ∧ (cyc6 m).rom = m.rom := by unfold cyc6; split <;> exact ⟨rfl, rfl⟩
theorem cycleM_ram (m : Mm) : (cycleM m).ram = m.ram := by
 unfold cycleM
 rw [(cyc6_mem _).1]
 refine ((askM_ram _ _ _).trans (askM_ram _ _ _)).trans ?_
 show (cyc3 (cyc2 (cyc1 m))).ram = m.ram
 rw [(cyc3_mem _).1, cyc12_ram]
theorem cycleM_rom (m : Mm) : (cycleM m).rom = m.rom := by
 unfold cycleM
 rw [(cyc6_mem _).2]
 refine ((askM_rom _ _ _).trans (askM_rom _ _ _)).trans ?_
 show (cyc3 (cyc2 (cyc1 m))).rom = m.rom
 rw [(cyc3_mem _).2, cyc12_rom]
theorem cyc1_u (m : Mm) : (cyc1 m).u = m.u := askM_u _ _ _
theorem cyc2_u (m : Mm) : (cyc2 m).u = m.u := askM_u _ _ _
theorem cyc5_u (m : Mm) : (cyc5 m).u = tickU m.u := (askM_u _ _ _).trans (askM_u _ _ _)
theorem cyc3_yes (hb : busyCp m.cp = true) : cyc3 m = { m with cp := tickCp m.cp, u := spriteU m.u (dstCp m.cp) (peekM (srcCp m.cp) { m with cp := tickCp m.cp }) } := if_pos (of_decide_eq_true hb)
theorem cyc3_no (hb : busyCp m.cp = false) : cyc3 m = m ∧ ({ m with cp := tickCp m.cp } : Mm) = m := by
 have h0 := of_decide_eq_false hb
 refine ⟨if_neg h0, ?_⟩
 have h1 : tickCp m.cp = m.cp := if_neg h0
 rw [h1]
theorem Els.laterM {α : Type} {w0 w : World} {ms : List Nat} {H : Heap} {c : α → List Value} {a : Option Addr} {l : List α} (h : Els w0 c a l) (hm : ∀ p, a = some p → p.block ∉ ms) (hw : St w0 ms H w) : Els w c a l := fun hl => by
 obtain ⟨b, off, rfl, hr⟩ := h hl
 exact ⟨b, off, rfl, row_old hr (hm _ rfl) w hw⟩
theorem get_head {j : Nat} {v : Value} (hv : (headM m)[j]? = some v) : (cMm A acc m)[j]? = some v := get_left (A := headM m) hv
theorem get_tail (h : MLn m) {j : Nat} {v : Value} (hv : (tailM A acc m)[j]? = some v) : (cMm A acc m)[119 + j]? = some v :=
 get_right (A := headM m) (n := 70 + j) (by rw [headM_len]; omega) (get_right (n := j) (by rw [cBd_len h.bd]) hv)
theorem get_mid (h : MLn m) {j : Nat} {v : Value} (hv : (midM A m)[j]? = some v) : (cMm A acc m)[119 + j]? = some v := get_tail h (get_left hv)
theorem get_work (h : MLn m) {j : Nat} (hj : j < 8192) : (cMm A acc m)[135 + j]? = some (.int .u8 (m.work.getD j 0)) := by
 rw [show 135 + j = 119 + (16 + j) by omega]
 exact get_tail h (get_right (n := j) y_c2 (get_left (map_at (by rw [h.work]; exact hj))))
theorem get_high (h : MLn m) {j : Nat} (hj : j < 127) : (cMm A acc m)[8327 + j]? = some (.int .u8 (m.high.getD j 0)) := by
 rw [show 8327 + j = 119 + (16 + (8192 + j)) by omega]
 exact get_tail h (get_right (n := 8192 + j) y_c2 (get_right (n := j) y_cJ (get_left (map_at (by rw [h.high]; exact hj)))))
theorem get_acc (h : MLn m) : (cMm A acc m)[8454]? = some acc := by
 rw [show (8454 : Nat) = 119 + (16 + (8192 + 127)) by omega]
 exact get_tail h (get_right (n := 8192 + 127) y_c2 (get_right (n := 127) y_cJ (get_right (n := 0) (by rw [List.length_map, h.high]) rfl)))
theorem row_mid {w : World} {b n : Nat} {X S Y : List Value} (hr : Row w b 0 (X ++ (S ++ Y))) (hn : X.length = n) : Row w b n S := fun i v hi => by
 have h1 : (X ++ (S ++ Y))[n + i]? = some v := get_right (n := i) (by rw [hn]) (get_left hi)
 have := hr (n + i) v h1
 rwa [Nat.zero_add] at this
variable {w : World} {b : Nat}
theorem rowM_cpu (hr : Row w b 0 (cMm A acc m)) : Row w b 0 (cS m.cpu) := row_mid (X := []) hr rfl
theorem rowM_bk (hr : Row w b 0 (cMm A acc m)) : Row w b 14 (cBk m.bk) := row_mid (X := cS m.cpu) hr rfl
theorem rowM_ck (hr : Row w b 0 (cMm A acc m)) : Row w b 22 (cCk m.ck) := row_mid (X := cS m.cpu ++ cBk m.bk) (Y := cTm m.tm ++ (cPd m.pd ++ (cPt m.pt ++ (cCp m.cp ++ (cBd m.bd ++ tailM A acc m))))) hr rfl
theorem rowM_tm (hr : Row w b 0 (cMm A acc m)) : Row w b 34 (cTm m.tm) := row_mid (X := cS m.cpu ++ (cBk m.bk ++ cCk m.ck)) (Y := cPd m.pd ++ (cPt m.pt ++ (cCp m.cp ++ (cBd m.bd ++ tailM A acc m)))) hr rfl
theorem rowM_pd (hr : Row w b 0 (cMm A acc m)) : Row w b 39 (cPd m.pd) := row_mid (X := cS m.cpu ++ (cBk m.bk ++ (cCk m.ck ++ cTm m.tm))) (Y := cPt m.pt ++ (cCp m.cp ++ (cBd m.bd ++ tailM A acc m))) hr rfl
theorem rowM_pt (hr : Row w b 0 (cMm A acc m)) : Row w b 41 (cPt m.pt) := row_mid (X := cS m.cpu ++ (cBk m.bk ++ (cCk m.ck ++ (cTm m.tm ++ cPd m.pd)))) (Y := cCp m.cp ++ (cBd m.bd ++ tailM A acc m)) hr rfl
theorem rowM_cp (hr : Row w b 0 (cMm A acc m)) : Row w b 47 (cCp m.cp) := row_mid (X := cS m.cpu ++ (cBk m.bk ++ (cCk m.ck ++ (cTm m.tm ++ (cPd m.pd ++ cPt m.pt))))) (Y := cBd m.bd ++ tailM A acc m) hr rfl
theorem rowM_bd (hr : Row w b 0 (cMm A acc m)) : Row w b 49 (cBd m.bd) := row_mid (X := headM m) (Y := tailM A acc m) hr rfl
theorem put_head {o : Nat} {vs : List Value} (hv : o + vs.length ≤ 49) : putL (cMm A acc m) o vs = putL (headM m) o vs ++ (cBd m.bd ++ tailM A acc m) := putL_left (A := headM m) (by rw [headM_len]; exact hv)
theorem putM_cpu (x : CS) : putL (cMm A acc m) 0 (cS x) = cMm A acc { m with cpu := x } := (put_head (Nat.le_of_ble_eq_true rfl)).trans rfl
theorem putM_bk (x : Bk) : putL (cMm A acc m) 14 (cBk x) = cMm A acc { m with bk := x } := (put_head (Nat.le_of_ble_eq_true rfl)).trans rfl
theorem putM_ck (x : Ck) : putL (cMm A acc m) 22 (cCk x) = cMm A acc { m with ck := x } := (put_head (Nat.le_of_ble_eq_true rfl)).trans rfl
theorem putM_tm (x : Tm) : putL (cMm A acc m) 34 (cTm x) = cMm A acc { m with tm := x } := (put_head (Nat.le_of_ble_eq_true rfl)).trans rfl
theorem putM_pd (x : Pd) : putL (cMm A acc m) 39 (cPd x) = cMm A acc { m with pd := x } := (put_head (Nat.le_of_ble_eq_true rfl)).trans rfl
theorem putM_pt (x : Pt) : putL (cMm A acc m) 41 (cPt x) = cMm A acc { m with pt := x } := (put_head (Nat.le_of_ble_eq_true rfl)).trans rfl
theorem putM_cp (x : Cp) : putL (cMm A acc m) 47 (cCp x) = cMm A acc { m with cp := x } := (put_head (Nat.le_of_ble_eq_true rfl)).trans rfl
theorem putM_bd (h : MLn m) {x : Bd} (hx : x.Ln) : putL (cMm A acc m) 49 (cBd x) = cMm A acc { m with bd := x } := by
 rw [cMm_eq, putL_right (n := 0) (by rw [headM_len]) (by rw [List.length_append, cBd_len hx, cBd_len h.bd]; omega), putL_left (by rw [cBd_len hx, cBd_len h.bd]; decide)]
 have h1 : putL (cBd m.bd) 0 (cBd x) = cBd x := by
  unfold putL
  rw [List.take_zero, List.nil_append, Nat.zero_add, List.drop_of_length_le (by rw [cBd_len hx, cBd_len h.bd]; decide), List.append_nil]
 rw [h1]
 rfl
theorem put_tail (h : MLn m) {o : Nat} {vs : List Value} (hv : o + vs.length ≤ (tailM A acc m).length) : putL (cMm A acc m) (119 + o) vs = headM m ++ (cBd m.bd ++ putL (tailM A acc m) o vs) := by
 rw [cMm_eq, putL_right (n := 70 + o) (by rw [headM_len]; omega) (by rw [List.length_append, cBd_len h.bd]; omega), putL_right (n := o) (by rw [cBd_len h.bd]) hv]
theorem tailM_len (h : MLn m) : (tailM A acc m).length = 8336 := by
 unfold tailM
 rw [List.length_append, midM_len, List.length_append, List.length_map, List.length_append, List.length_map, h.work, h.high, List.length_singleton]
theorem put_mid (h : MLn m) {o : Nat} {v : Value} (hv : o < 16) : putL (cMm A acc m) (119 + o) [v] = headM m ++ (cBd m.bd ++ (putL (midM A m) o [v] ++ (m.work.map (.int .u8) ++ (m.high.map (.int .u8) ++ [acc])))) := by
 rw [put_tail h y_b0]
 unfold tailM
 rw [putL_left (by rw [midM_len, List.length_singleton]; omega)]
theorem putM_flags (h : MLn m) (x : Int) : putL (cMm A acc m) 119 [.int .u8 x] = cMm A acc { m with flags := x } := (put_mid h (o := 0) y_c).trans rfl
theorem putM_lets (h : MLn m) (x : Int) : putL (cMm A acc m) 120 [.int .u8 x] = cMm A acc { m with lets := x } := (put_mid h (o := 1) y_c).trans rfl
theorem putM_steps (h : MLn m) (x : Int) : putL (cMm A acc m) 121 [.int .u64 x] = cMm A acc { m with steps := x } := (put_mid h (o := 2) y_c).trans rfl
theorem putM_cycles (h : MLn m) (x : Int) : putL (cMm A acc m) 122 [.int .u64 x] = cMm A acc { m with cycles := x } := (put_mid h (o := 3) y_c).trans rfl
theorem putM_work (h : MLn m) {j : Nat} (hj : j < 8192) (x : Int) : putL (cMm A acc m) (135 + j) [.int .u8 x] = cMm A acc { m with work := m.work.set j x } := by
 rw [show 135 + j = 119 + (16 + j) by omega, put_tail h y_b0]
 unfold tailM
 rw [putL_right (n := j) y_c2 (by rw [List.length_append, List.length_map, h.work, List.length_singleton]; omega), putL_left (by rw [List.length_map, h.work, List.length_singleton]; omega), putL_int .u8 (by rw [h.work]; exact hj)]
 rfl
theorem putM_high (h : MLn m) {j : Nat} (hj : j < 127) (x : Int) : putL (cMm A acc m) (8327 + j) [.int .u8 x] = cMm A acc { m with high := m.high.set j x } := by
 rw [show 8327 + j = 119 + (16 + (8192 + j)) by omega, put_tail h y_b0]
 unfold tailM
 rw [putL_right (n := 8192 + j) y_c2 (by rw [List.length_append, List.length_map, List.length_append, List.length_map, h.work, h.high, List.length_singleton]; omega), putL_right (n := j) y_cJ (by rw [List.length_append, List.length_map, h.high, List.length_singleton]; omega), putL_left (by rw [List.length_map, h.high, List.length_singleton]; omega), putL_int .u8 (by rw [h.high]; exact hj)]
 rfl
theorem putM_acc (h : MLn m) (x : Value) : putL (cMm A acc m) 8454 [x] = cMm A x m := by
 rw [show (8454 : Nat) = 119 + (16 + (8192 + 127)) by omega, put_tail h y_b0]
 unfold tailM
 rw [putL_right (n := 8192 + 127) y_c2 (by rw [List.length_append, List.length_map, List.length_append, List.length_map, h.work, h.high, List.length_singleton, List.length_singleton]; omega), putL_right (n := 127) y_cJ (by rw [List.length_append, List.length_map, h.high, List.length_singleton, List.length_singleton]; omega), putL_right (A := m.high.map (.int .u8)) (B := [acc]) (vs := [x]) (o := 127) (n := 0) (by rw [List.length_map, h.high]) (Nat.le_refl 1)]
 rfl
end
def BusH (A : Ad) (m : Mm) (H : Heap) : Prop := ∃ va Ga, Vec 101 3 va m.acc.length (flat cAc m.acc) Ga ∧ H = Ga ++ [(A.mb, blk (cMm A va m) 137), (A.ub, blk (cU m.u) 178), (A.rb, blk (m.ram.map (.int .u8) ++ A.rs) 5), (A.ob, blk (m.rom.map (.int .u8) ++ A.sp) 5)]
def boolI (b : Bool) : Int := if b = true then 1 else 0
def r4 (u : PU) : List Int := u.R.set 4 u.line
def regsE (u : PU) : List Int := (r4 u).take 6 ++ (r4 u).drop 7
def tailE (u : PU) : List Int := [u.dot, u.own % 256, u.frames % 256, u.frames / 256, boolI u.sig]
def headE (u : PU) : List Int := u.V ++ u.O ++ regsE u ++ tailE u
def encU (u : PU) : List Int := headE u ++ u.P
structure Sg where
 a : Option Addr
 c : Nat
 l : List Int
def cSg (s : Sg) : List Value := [.slice s.a s.l.length s.c]
theorem cSg_len (s : Sg) : (cSg s).length = 1 := rfl
def catS (l : List Sg) : List Int := l.flatMap (·.l)
theorem catS_snoc (l : List Sg) (i : Nat) {s : Sg} (h : l[i]? = some s) : catS (l.take (i + 1)) = catS (l.take i) ++ s.l := by
 rw [get_part h]; simp [catS]
theorem catS_le (l : List Sg) (i : Nat) : (catS (l.take i)).length ≤ (catS l).length := by
 conv => rhs; rw [← List.take_append_drop i l]
 simp only [catS, List.flatMap_append, List.length_append]; omega
section
variable {u : PU}
theorem r4_len (h : u.Wf) : (r4 u).length = 12 := by simp [r4, h.lR]
theorem regsE_len (h : u.Wf) : (regsE u).length = 11 := by simp [regsE, r4_len h]
theorem headE_len (h : u.Wf) : (headE u).length = 8368 := by simp [headE, regsE_len h, tailE, h.lV, h.lO]
theorem encU_len (h : u.Wf) : (encU u).length = 31408 := by simp [encU, headE_len h, h.lP]
def segsE (u : PU) (b b3 : Nat) : List Sg := [⟨some ⟨b, 0, none⟩, 8192, u.V⟩, ⟨some ⟨b, 8192, none⟩, 160, u.O⟩, ⟨some ⟨b3, 0, none⟩, 12, (r4 u).take 6⟩, ⟨some ⟨b3, 7, none⟩, 5, (r4 u).drop 7⟩]
theorem segsE_cat (u : PU) (b b3 : Nat) : catS (segsE u b b3) = u.V ++ u.O ++ regsE u := by simp [catS, segsE, regsE]
theorem segsE_len (h : u.Wf) (b b3 : Nat) : (catS (segsE u b b3)).length = 8363 := by rw [segsE_cat]; simp [regsE_len h, h.lV, h.lO]
theorem row_takeI {w : World} {b off : Nat} {l : List Int} (h : Row w b off (l.map (.int .u8))) (n : Nat) : Row w b off ((l.take n).map (.int .u8)) := fun j v hv => h j v (by
 rw [List.getElem?_map, List.getElem?_take] at hv
 split at hv
 ·rw [List.getElem?_map]; exact hv
 ·simp at hv)
theorem row_dropI {w : World} {b off : Nat} {l : List Int} (h : Row w b off (l.map (.int .u8))) (n : Nat) : Row w b (off + n) ((l.drop n).map (.int .u8)) := fun j v hv => by
 have := h (n + j) v (by
  rw [List.getElem?_map, List.getElem?_drop] at hv
  rw [List.getElem?_map]; exact hv)
 rwa [← Nat.add_assoc] at this
theorem segsE_ok (h : u.Wf) {w : World} {b b3 : Nat} (hr : Row w b 0 (cU u)) (h3 : Row w b3 0 ((r4 u).map (.int .u8))) : ∀ s ∈ segsE u b b3, Ns w .u8 s.a s.l ∧ s.l.length ≤ s.c := by
 intro s hs
 simp only [segsE, List.mem_cons, List.not_mem_nil, or_false] at hs
 rcases hs with rfl | rfl | rfl | rfl
 ·exact ⟨Ns.of (rowV hr), by rw [h.lV]; exact Nat.le_refl _⟩
 ·exact ⟨Ns.of (rowO h hr), by rw [h.lO]; exact Nat.le_refl _⟩
 ·exact ⟨Ns.of (row_takeI h3 6), by simp [r4_len h]⟩
 ·exact ⟨Ns.of (by simpa using row_dropI h3 7), by simp [r4_len h]⟩
theorem rowPi (h : u.Wf) {w : World} {b : Nat} (hr : Row w b 0 (cU u)) {i : Nat} (_hi : i < 144) : Row w b (8369 + i * 160) (((u.P.drop (i * 160)).take 160).map (.int .u8)) := fun j v hv => by
 have := rowP h hr (i * 160 + j) v (by
  rw [List.getElem?_map] at hv ⊢
  rw [List.getElem?_take] at hv
  split at hv
  ·rw [List.getElem?_drop] at hv; exact hv
  ·simp at hv)
 rw [Nat.add_assoc]; exact this
theorem take_rows (l : List Int) (i : Nat) : l.take (i * 160) ++ (l.drop (i * 160)).take 160 = l.take ((i + 1) * 160) := by
 rw [Nat.add_mul, Nat.one_mul, List.take_add]
end
def okE (l : List Int) : Bool := decide (l.getD 8356 0 < 154) && decide (l.getD 8363 0 < 114) && (bandn .u8 (l.getD 8353 0) 120 == 0) && decide (l.getD 8367 0 ≤ 1) && (l.drop 8368).all (fun x => decide (x ≤ 3))
end Go.Proofs.YtldehodcfajpjaaGreat
