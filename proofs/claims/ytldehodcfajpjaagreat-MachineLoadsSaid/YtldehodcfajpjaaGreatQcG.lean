/- A line of tiles: plain definitions and laws, no program. -/
import Derived.Test.YtldehodcfajpjaaGreatQcF
set_option linter.unusedSimpArgs false
set_option linter.unusedVariables false
set_option maxRecDepth 100000
namespace Go.Proofs.YtldehodcfajpjaaGreat
open Go Go.VV
structure Tm where
 cnt : Int
 tima : Int
 tma : Int
 tac : Int
 over : Bool
deriving DecidableEq
def cTm (t : Tm) : List Value := [.int .u16 t.cnt, .int .u8 t.tima, .int .u8 t.tma, .int .u8 t.tac, .bool t.over]
structure Tm.Ok (t : Tm) : Prop where
 cnt : 0 ≤ t.cnt ∧ t.cnt < 65536
 tima : 0 ≤ t.tima ∧ t.tima < 256
 tma : 0 ≤ t.tma ∧ t.tma < 256
 tac : 0 ≤ t.tac ∧ t.tac < 256
def bitT (tac : Int) : Nat := if tac % 4 = 0 then 9 else if tac % 4 = 1 then 3 else if tac % 4 = 2 then 5 else 7
def sigT (t : Tm) : Bool := decide (t.tac / 4 % 2 = 1) && decide (t.cnt / 2 ^ bitT t.tac % 2 = 1)
def incT (t : Tm) : Tm := { t with tima := (t.tima + 1) % 256, over := t.over || (t.tima + 1) % 256 == 0 }
def fallT (was : Bool) (t : Tm) : Tm := if was = true ∧ sigT t = false then incT t else t
def chT (g : Tm → Tm) (t : Tm) : Tm := fallT (sigT t) (g t)
def irqT (t : Tm) : Tm := if t.over = true then { t with tima := t.tma, over := false } else t
def stepTm (t : Tm) : Tm := { t with cnt := (t.cnt + 4) % 65536 }
def tickTm (t : Tm) : Tm := chT stepTm (irqT t)
def readTm (n : Int) (t : Tm) : Int := if n = 0 then t.cnt / 256 else if n = 1 then t.tima else if n = 2 then t.tma else if n = 3 then 248 + t.tac % 8 else 255
def zeroTm (t : Tm) : Tm := { t with cnt := 0 }
def tacTm (x : Int) (t : Tm) : Tm := { t with tac := x % 8 }
def writeTm (n x : Int) (t : Tm) : Tm := if n = 0 then chT zeroTm t else if n = 1 then { t with tima := x, over := false } else if n = 2 then { t with tma := x } else if n = 3 then chT (tacTm x) t else t
theorem sig_off {t : Tm} (h : t.tac / 4 % 2 * 4 = 0) : false = sigT t := by unfold sigT; rw [decide_eq_false o_m]; rfl
theorem sig_on {t : Tm} (d : Int) (h : ¬ t.tac / 4 % 2 * 4 = 0) (hd : (2 : Int) ^ bitT t.tac = d) : (t.cnt / d % 2 == 1) = sigT t := by unfold sigT; rw [hd, decide_eq_true o_m, Bool.true_and]; rfl
theorem bit_at {t : Tm} {k : Int} {n : Nat} (h : t.tac % 4 = k) (hk : k = 0 ∧ n = 9 ∨ k = 1 ∧ n = 3 ∨ k = 2 ∧ n = 5 ∨ k = 3 ∧ n = 7) : bitT t.tac = n := by
 unfold bitT; rcases hk with ⟨rfl, rfl⟩ | ⟨rfl, rfl⟩ | ⟨rfl, rfl⟩ | ⟨rfl, rfl⟩ <;> simp [h]
theorem fall_no {was : Bool} {t : Tm} (h : was = false ∨ sigT t = true) : t = fallT was t := by unfold fallT; rw [if_neg (by rintro ⟨h1, h2⟩; rcases h with h | h <;> simp_all)]
theorem fall_yes {was : Bool} {t : Tm} (h1 : was = true) (h2 : sigT t = false) : incT t = fallT was t := by unfold fallT; rw [if_pos ⟨h1, h2⟩]
theorem Tm.Ok.inc {t : Tm} (h : t.Ok) : (incT t).Ok := ⟨h.cnt, by unfold incT; dsimp only; omega, h.tma, h.tac⟩
theorem Tm.Ok.fall {t : Tm} (h : t.Ok) (b : Bool) : (fallT b t).Ok := by unfold fallT; split; exact h.inc; exact h
theorem Tm.Ok.irq {t : Tm} (h : t.Ok) : (irqT t).Ok := by unfold irqT; split; exact ⟨h.cnt, h.tma, h.tma, h.tac⟩; exact h
theorem Tm.Ok.step {t : Tm} (h : t.Ok) : (stepTm t).Ok := ⟨by unfold stepTm; dsimp only; omega, h.tima, h.tma, h.tac⟩
theorem Tm.Ok.tick {t : Tm} (h : t.Ok) : (tickTm t).Ok := h.irq.step.fall _
theorem Tm.Ok.zero {t : Tm} (h : t.Ok) : (zeroTm t).Ok := ⟨by unfold zeroTm; dsimp only; omega, h.tima, h.tma, h.tac⟩
theorem Tm.Ok.tac_ {t : Tm} (h : t.Ok) (x : Int) : (tacTm x t).Ok := ⟨h.cnt, h.tima, h.tma, by unfold tacTm; dsimp only; omega⟩
theorem Tm.Ok.write {t : Tm} (h : t.Ok) (n : Int) {x : Int} (hx : 0 ≤ x ∧ x < 256) : (writeTm n x t).Ok := by
 unfold writeTm
 split
 ·exact h.zero.fall _
 split
 ·exact ⟨h.cnt, hx, h.tma, h.tac⟩
 split
 ·exact ⟨h.cnt, h.tima, hx, h.tac⟩
 split
 ·exact (h.tac_ x).fall _
 ·exact h
theorem readTm_ok {t : Tm} (h : t.Ok) (n : Int) : 0 ≤ readTm n t ∧ readTm n t < 256 := by
 have h1 := h.cnt; have h2 := h.tima; have h3 := h.tma
 unfold readTm; split; omega; split; omega; split; omega; split <;> omega
structure Pt where
 data : Int
 control : Int
 last : Int
 bits : Int
 count : Int
 sent : Int
deriving DecidableEq
def cPt (p : Pt) : List Value := [.int .u8 p.data, .int .u8 p.control, .int .u8 p.last, .int .i64 p.bits, .int .i64 p.count, .int .i64 p.sent]
structure Pt.Ok (p : Pt) : Prop where
 data : 0 ≤ p.data ∧ p.data < 256
 control : 0 ≤ p.control ∧ p.control < 256
 last : 0 ≤ p.last ∧ p.last < 256
 bits : 0 ≤ p.bits ∧ p.bits < 65536
 count : 0 ≤ p.count ∧ p.count < 65536
 sent : 0 ≤ p.sent ∧ p.sent < 65536
def shiftPt (p : Pt) : Pt := { p with count := 0, data := p.data % 128 * 2 + 1, bits := p.bits - 1 }
def tickPt (p : Pt) : Pt :=
 if p.bits < 1 then p else if p.count + 1 < 128 then { p with count := p.count + 1 }
 else if 0 < p.bits - 1 then shiftPt p else { shiftPt p with control := p.control % 128 }
def irqPt (p : Pt) : Bool := decide (¬ p.bits < 1 ∧ ¬ p.count + 1 < 128 ∧ ¬ 0 < p.bits - 1)
def readPt (n : Int) (p : Pt) : Int := if n = 0 then p.data else if n = 1 then p.control / 128 * 128 + 126 + p.control % 2 else 255
def beginPt (p : Pt) : Pt := { p with bits := 8, count := 0, last := p.data, sent := (p.sent + 1) % 65536 }
def writePt (n x : Int) (p : Pt) : Pt :=
 if n = 0 then { p with data := x }
 else if n = 1 then (if x / 128 = 1 ∧ x % 2 = 1 then beginPt { p with control := x / 128 * 128 + x % 2, bits := 0 } else { p with control := x / 128 * 128 + x % 2, bits := 0 })
 else p
theorem Pt.Ok.tick {p : Pt} (h : p.Ok) : (tickPt p).Ok := by
 have h1 := h.data; have h2 := h.control; have h4 := h.bits; have h5 := h.count
 unfold tickPt
 split
 ·exact h
 split
 ·exact ⟨h.data, h.control, h.last, h.bits, y_F, h.sent⟩
 split
 ·exact ⟨y_bT, h.control, h.last, y_bT, y_bT, h.sent⟩
 ·exact ⟨y_bT, y_F, h.last, y_bT, y_bT, h.sent⟩
theorem Pt.Ok.write {p : Pt} (h : p.Ok) (n : Int) {x : Int} (hx : 0 ≤ x ∧ x < 256) : (writePt n x p).Ok := by
 have h6 := h.sent
 unfold writePt
 split
 ·exact ⟨hx, h.control, h.last, h.bits, h.count, h.sent⟩
 split
 ·split
  ·exact ⟨h.data, y_cB, h.data, y_cB, y_cB, y_cB⟩
  ·exact ⟨h.data, y_F, h.last, y_F, h.count, h.sent⟩
 ·exact h
theorem readPt_ok {p : Pt} (h : p.Ok) (n : Int) : 0 ≤ readPt n p ∧ readPt n p < 256 := by
 have h1 := h.data; have h2 := h.control
 unfold readPt; split; omega; split <;> omega
structure Cp where
 page : Int
 left : Int
deriving DecidableEq
def cCp (c : Cp) : List Value := [.int .u8 c.page, .int .i64 c.left]
structure Cp.Ok (c : Cp) : Prop where
 page : 0 ≤ c.page ∧ c.page < 256
 left : 0 ≤ c.left ∧ c.left < 65536
def fromCp (c : Cp) : Int := if 224 ≤ c.page then (c.page - 32) * 256 else c.page * 256
def busyCp (c : Cp) : Bool := decide (0 < c.left)
def tickCp (c : Cp) : Cp := if 0 < c.left then { c with left := c.left - 1 } else c
def srcCp (c : Cp) : Int := if 0 < c.left then (fromCp c + (160 - c.left)) % 65536 else 0
def dstCp (c : Cp) : Int := if 0 < c.left then 160 - c.left else 0
def letsCp (c : Cp) (a : Int) : Bool := !busyCp c || decide (65280 ≤ a)
def writeCp (x : Int) : Cp := ⟨x, 160⟩
theorem Cp.Ok.tick {c : Cp} (h : c.Ok) : (tickCp c).Ok := by
 have h1 := h.left
 unfold tickCp; split; exact ⟨h.page, y_F⟩; exact h
theorem srcCp_ok (c : Cp) : 0 ≤ srcCp c ∧ srcCp c < 65536 := by unfold srcCp; split <;> omega
structure Pd where
 sel : Int
 down : Int
deriving DecidableEq
def cPd (p : Pd) : List Value := [.int .u8 p.sel, .int .u8 p.down]
structure Pd.Ok (p : Pd) : Prop where
 sel : 0 ≤ p.sel ∧ p.sel < 256
 down : 0 ≤ p.down ∧ p.down < 256
def loPd (p : Pd) : Int := if band .u8 p.sel 16 = 0 then bor .u8 0 p.down else 0
def heldPd (p : Pd) : Int := band .u8 (if band .u8 p.sel 32 = 0 then bor .u8 (loPd p) (shr .u8 p.down 4) else loPd p) 15
def readPd (p : Pd) : Int := bor .u8 (bor .u8 192 (band .u8 p.sel 48)) (band .u8 (bxor .u8 255 (heldPd p)) 15)
def fallsPd (p q : Pd) : Bool := bandn .u8 (heldPd q) (heldPd p) != 0
def selPd (x : Int) (p : Pd) : Pd := ⟨band .u8 x 48, p.down⟩
def pressPd (x : Int) (p : Pd) : Pd := ⟨p.sel, x⟩
theorem wrapU8_ok (x : Int) : 0 ≤ IntKind.u8.wrap x ∧ IntKind.u8.wrap x < 256 := by rw [wrap_u8]; omega
theorem band8_ok (x y : Int) : 0 ≤ band .u8 x y ∧ band .u8 x y < 256 := wrapU8_ok _
theorem bor8_ok (x y : Int) : 0 ≤ bor .u8 x y ∧ bor .u8 x y < 256 := wrapU8_ok _
theorem readPd_ok (p : Pd) : 0 ≤ readPd p ∧ readPd p < 256 := bor8_ok _ _
theorem Pd.Ok.sel_ {p : Pd} (h : p.Ok) (x : Int) : (selPd x p).Ok := ⟨band8_ok _ _, h.down⟩
theorem Pd.Ok.press {p : Pd} (h : p.Ok) {x : Int} (hx : 0 ≤ x ∧ x < 256) : (pressPd x p).Ok := ⟨h.sel, hx⟩
structure Chg where
 at_ : Int
 down : Int
deriving DecidableEq
def cChg (c : Chg) : List Value := [.int .u64 c.at_, .int .u8 c.down]
def lastP (o : Option Chg) (c : Chg) : Bool := match o with
 | none => true
 | some b => decide (b.at_ ≤ c.at_)
def betterP (n : Int) (o : Option Chg) (c : Chg) : Option Chg := if c.at_ ≤ n ∧ lastP o c = true then some c else o
def bestP (n : Int) (l : List Chg) : Option Chg := l.foldl (betterP n) none
def planAt (l : List Chg) (n : Int) : Int := match bestP n l with
 | none => 0
 | some c => c.down
def ChgOk (c : Chg) : Prop := (0 ≤ c.at_ ∧ c.at_ < 18446744073709551616) ∧ 0 ≤ c.down ∧ c.down < 256
theorem best_step {n : Int} {l : List Chg} {i : Nat} {c : Chg} (hc : l[i]? = some c) : bestP n (l.take (i + 1)) = betterP n (bestP n (l.take i)) c := by
 unfold bestP
 rw [List.take_add_one, hc, List.foldl_append]
 rfl
theorem better_yes {n : Int} {o : Option Chg} {c : Chg} (h1 : c.at_ ≤ n) (h2 : lastP o c = true) : betterP n o c = some c := if_pos ⟨h1, h2⟩
theorem better_no {n : Int} {o : Option Chg} {c : Chg} (h : ¬ c.at_ ≤ n ∨ lastP o c = false) : betterP n o c = o := if_neg fun ⟨h1, h2⟩ => by rcases h with h | h; exact h h1; rw [h] at h2; cases h2
theorem cChg_len (c : Chg) : (cChg c).length = 2 := rfl
theorem bestP_mem (n : Int) (l : List Chg) (c : Chg) (h : bestP n l = some c) : c ∈ l := by
 have key : ∀ (l : List Chg) (o : Option Chg) (S : Chg → Prop), (∀ c, o = some c → S c) → (∀ c ∈ l, S c) → ∀ c, l.foldl (betterP n) o = some c → S c := by
  intro l
  induction l with
  | nil => exact fun o S ho _ c h => ho c h
  | cons d l ih =>
   intro o S ho hl c h
   refine ih (betterP n o d) S (fun c hc => ?_) (fun c hc => hl c (.tail _ hc)) c h
   unfold betterP at hc
   split at hc
   ·cases hc; exact hl d (.head _)
   ·exact ho c hc
 exact key l none (· ∈ l) (fun c h => y_eI) (fun c h => h) c h
theorem planAt_ok {l : List Chg} (h : ∀ c ∈ l, ChgOk c) (n : Int) : 0 ≤ planAt l n ∧ planAt l n < 256 := by
 unfold planAt
 split
 ·omega
 ·rename_i c hc; exact (h c (bestP_mem n l c hc)).2
structure Bk where
 kind : Int
 banks : Int
 ram : Int
 on : Bool
 mode : Bool
 low : Int
 high : Int
 last : Int
deriving DecidableEq
def cBk (m : Bk) : List Value := [.int .i64 m.kind, .int .i64 m.banks, .int .i64 m.ram, .bool m.on, .bool m.mode, .int .i64 m.low, .int .i64 m.high, .int .u8 m.last]
structure Bk.Ok (m : Bk) : Prop where
 kind : 0 ≤ m.kind ∧ m.kind < 256
 banks : 0 ≤ m.banks ∧ m.banks < 65536
 ram : 0 ≤ m.ram ∧ m.ram < 1048576
 low : 0 ≤ m.low ∧ m.low < 65536
 high : 0 ≤ m.high ∧ m.high < 65536
 last : 0 ≤ m.last ∧ m.last < 256
def opensB (x : Int) : Bool := decide (x % 16 = 10)
def oneB (a x : Int) (m : Bk) : Bk := if a / 8192 = 0 then { m with on := opensB x } else if a / 8192 = 1 then { m with low := max (x % 32) 1 } else if a / 8192 = 2 then { m with high := x % 4 } else { m with mode := decide (x % 2 = 1) }
def twoB (a x : Int) (m : Bk) : Bk := if 16384 ≤ a then m else if a / 256 % 2 = 0 then { m with on := opensB x } else { m with low := max (x % 16) 1 }
def threeB (a x : Int) (m : Bk) : Bk := if a / 8192 = 0 then { m with on := opensB x } else if a / 8192 = 1 then { m with low := max (x % 128) 1 } else if a / 8192 = 2 then { m with high := x % 16 } else { m with last := x }
def heldB (a x : Int) (m : Bk) : Bool := decide (¬ a / 8192 = 0 ∧ ¬ a / 8192 = 1 ∧ ¬ a / 8192 = 2 ∧ m.last = 0 ∧ x = 1)
def fiveB (a x : Int) (m : Bk) : Bk := if a / 4096 = 0 ∨ a / 4096 = 1 then { m with on := opensB x } else if a / 4096 = 2 then { m with low := m.low / 256 * 256 + x } else if a / 4096 = 3 then { m with low := m.low % 256 + x % 2 * 256 } else if a / 4096 = 4 ∨ a / 4096 = 5 then { m with high := x % 16 } else m
def writeB (a x : Int) (m : Bk) : Bk :=
 if m.kind = 1 then oneB (a % 32768) x m else if m.kind = 2 then twoB (a % 32768) x m else if m.kind = 3 then threeB (a % 32768) x m else if m.kind = 5 then fiveB (a % 32768) x m else m
def latchB (a x : Int) (m : Bk) : Bool := decide (m.kind = 3) && heldB (a % 32768) x m
def numB (a : Int) (m : Bk) : Int :=
 if m.kind = 0 then (if a / 16384 % 2 = 1 then 1 else 0)
 else if m.kind = 1 then (if a / 16384 % 2 = 1 then m.high * 32 + m.low else if m.mode = true then m.high * 32 else 0)
 else if m.kind = 2 ∨ m.kind = 3 ∨ m.kind = 5 then (if a / 16384 % 2 = 1 then m.low else 0) else 0
def bankB (a : Int) (m : Bk) : Int := if m.banks < 1 then 0 else numB a m % m.banks
def romB (a : Int) (m : Bk) : Int := 16384 * bankB a m + a % 16384
def atB_ (a : Int) (m : Bk) : Option Int :=
 if a < 40960 ∨ 49152 ≤ a ∨ m.on = false ∨ m.ram < 1 then none
 else if m.kind = 0 then some (a % 8192 % m.ram)
 else if m.kind = 1 then some ((if m.mode = true then a % 8192 + 8192 * m.high else a % 8192) % m.ram)
 else if m.kind = 2 then some (a % 8192 % 512 % m.ram)
 else if m.kind = 3 then (if 3 < m.high then none else some ((a % 8192 + 8192 * m.high) % m.ram))
 else if m.kind = 5 then some ((a % 8192 + 8192 * m.high) % m.ram) else none
def clockB (m : Bk) : Option Int := if m.kind ≠ 3 ∨ m.on = false ∨ m.high < 8 ∨ 12 < m.high then none else some (m.high - 8)
theorem Bk.Ok.write {m : Bk} (h : m.Ok) (a : Int) {x : Int} (hx : 0 ≤ x ∧ x < 256) : (writeB a x m).Ok := by
 have h1 := h.low; have h2 := h.high
 have L : ∀ v, 0 ≤ v ∧ v < 65536 → ({ m with low := v } : Bk).Ok := fun v hv => ⟨h.kind, h.banks, h.ram, hv, h.high, h.last⟩
 have Hh : ∀ v, 0 ≤ v ∧ v < 65536 → ({ m with high := v } : Bk).Ok := fun v hv => ⟨h.kind, h.banks, h.ram, h.low, hv, h.last⟩
 have O : ∀ b, ({ m with on := b } : Bk).Ok := fun b => ⟨h.kind, h.banks, h.ram, h.low, h.high, h.last⟩
 unfold writeB
 split
 ·unfold oneB; split; exact O _; split; exact L _ o_m; split; exact Hh _ o_m; exact ⟨h.kind, h.banks, h.ram, h.low, h.high, h.last⟩
 split
 ·unfold twoB; split; exact h; split; exact O _; exact L _ o_m
 split
 ·unfold threeB; split; exact O _; split; exact L _ o_m; split; exact Hh _ o_m; exact ⟨h.kind, h.banks, h.ram, h.low, h.high, hx⟩
 split
 ·unfold fiveB; split; exact O _; split; exact L _ o_m; split; exact L _ o_m; split; exact Hh _ o_m; exact h
 ·exact h
theorem writeB_same (a x : Int) (m : Bk) : (writeB a x m).kind = m.kind ∧ (writeB a x m).banks = m.banks ∧ (writeB a x m).ram = m.ram := by
 unfold writeB oneB twoB threeB fiveB
 repeat' split
 all_goals exact ⟨rfl, rfl, rfl⟩
theorem numB_ok {m : Bk} (h : m.Ok) (a : Int) : 0 ≤ numB a m ∧ numB a m < 4194304 := by
 have h1 := h.low; have h2 := h.high
 unfold numB; repeat' split
 all_goals omega
theorem bankB_ok {m : Bk} (h : m.Ok) (a : Int) : 0 ≤ bankB a m ∧ bankB a m ≤ m.banks ∧ (0 < m.banks → bankB a m < m.banks) := by
 have h1 := h.banks; have h2 := numB_ok h a
 unfold bankB
 split
 ·omega
 ·have h3 := Int.emod_nonneg (numB a m) (show m.banks ≠ 0 by omega)
  have h4 := Int.emod_lt_of_pos (numB a m) (show 0 < m.banks by omega)
  omega
theorem atB_ok {m : Bk} (a : Int) {n : Int} (hn : atB_ a m = some n) : 0 ≤ n ∧ n < m.ram := by
 have key : ∀ x : Int, 0 < m.ram → 0 ≤ x % m.ram ∧ x % m.ram < m.ram := fun x hr => ⟨Int.emod_nonneg _ o_m, Int.emod_lt_of_pos _ hr⟩
 unfold atB_ at hn
 split at hn
 ·cases hn
 ·rename_i hc
  have hr : 0 < m.ram := by omega
  repeat' split at hn
  all_goals first | cases hn; done | (cases hn; exact key _ hr)
structure Ck where
 s : Int
 m : Int
 h : Int
 day : Int
 sub : Int
 halt : Bool
 carry : Bool
 h0 : Int
 h1 : Int
 h2 : Int
 h3 : Int
 h4 : Int
deriving DecidableEq
def Ck.held (c : Ck) : List Int := [c.h0, c.h1, c.h2, c.h3, c.h4]
def cCk (c : Ck) : List Value := [.int .u8 c.s, .int .u8 c.m, .int .u8 c.h, .int .i64 c.day, .int .i64 c.sub, .bool c.halt, .bool c.carry, .int .u8 c.h0, .int .u8 c.h1, .int .u8 c.h2, .int .u8 c.h3, .int .u8 c.h4]
structure Ck.Fo (c : Ck) : Prop where
 s : 0 ≤ c.s ∧ c.s < 256
 m : 0 ≤ c.m ∧ c.m < 256
 h : 0 ≤ c.h ∧ c.h < 256
 day : -9223372036854775808 ≤ c.day ∧ c.day ≤ 9223372036854775807
 byH : Byts c.held
structure Ck.Ok (c : Ck) : Prop extends Ck.Fo c where
 sub : 0 ≤ c.sub ∧ c.sub < 4294967296
def dayCk (c : Ck) : Ck := if IntKind.i64.wrap (c.day + 1) = 512 then { c with day := 0, carry := true } else { c with day := IntKind.i64.wrap (c.day + 1) }
def secCk (c : Ck) : Ck :=
 if (c.s + 1) % 64 ≠ 60 then { c with s := (c.s + 1) % 64 }
 else if (c.m + 1) % 64 ≠ 60 then { c with s := 0, m := (c.m + 1) % 64 }
 else if (c.h + 1) % 32 ≠ 24 then { c with s := 0, m := 0, h := (c.h + 1) % 32 }
 else dayCk { c with s := 0, m := 0, h := 0 }
def secsCk (c : Ck) : Nat → Ck
 | 0 => c
 | n + 1 => { secCk (secsCk c n) with sub := (secsCk c n).sub - 1048576 }
def tickCk (c : Ck) : Ck := if c.halt = true then c else secsCk { c with sub := c.sub + 1 } ((c.sub + 1) / 1048576).toNat
def bitCk (b : Bool) (n : Int) : Int := if b = true then n else 0
def holdCk (c : Ck) : Ck := { c with h0 := c.s, h1 := c.m, h2 := c.h, h3 := c.day % 256, h4 := c.day / 256 % 2 + bitCk c.halt 64 + bitCk c.carry 128 }
def readCk (n : Int) (c : Ck) : Int := if n < 0 ∨ 5 ≤ n then 0 else c.held.getD n.toNat 0
def writeCk (n x : Int) (c : Ck) : Ck :=
 if n = 0 then { c with s := x % 64, sub := 0 } else if n = 1 then { c with m := x % 64 } else if n = 2 then { c with h := x % 32 }
 else if n = 3 then { c with day := c.day / 256 * 256 + x } else if n = 4 then { c with day := c.day % 256 + x % 2 * 256, halt := decide (x / 64 % 2 = 1), carry := decide (x / 128 = 1) } else c
theorem wrapI64 (n : Int) : IntKind.i64.wrap n = (n + 9223372036854775808) % 18446744073709551616 - 9223372036854775808 := by
 simp [IntKind.wrap, IntKind.bits, IntKind.signed]; omega
theorem wrapI64_ok (x : Int) : -9223372036854775808 ≤ IntKind.i64.wrap x ∧ IntKind.i64.wrap x ≤ 9223372036854775807 := by
 have := wrapI64 x
 omega
theorem Ck.Fo.day_ {c : Ck} (h : c.Fo) : (dayCk c).Fo := by
 unfold dayCk
 split
 ·exact ⟨h.s, h.m, h.h, y_F, h.byH⟩
 ·exact ⟨h.s, h.m, h.h, wrapI64_ok _, h.byH⟩
theorem Ck.Fo.sec {c : Ck} (h : c.Fo) : (secCk c).Fo := by
 unfold secCk
 split
 ·exact ⟨y_F, h.m, h.h, h.day, h.byH⟩
 split
 ·exact ⟨y_F, y_F, h.h, h.day, h.byH⟩
 split
 ·exact ⟨y_F, y_F, y_F, h.day, h.byH⟩
 ·exact Ck.Fo.day_ ⟨y_F, y_F, y_F, h.day, h.byH⟩
theorem secsCk_sub (c : Ck) : ∀ n : Nat, (secsCk c n).sub = c.sub - 1048576 * n
 | 0 => by show c.sub = _; omega
 | n + 1 => by show (secsCk c n).sub - 1048576 = _; rw [secsCk_sub c n]; omega
theorem Ck.Fo.sub_ {c : Ck} (h : c.Fo) (x : Int) : ({ c with sub := x } : Ck).Fo := ⟨h.s, h.m, h.h, h.day, h.byH⟩
theorem Ck.Fo.secs {c : Ck} (h : c.Fo) : ∀ n : Nat, (secsCk c n).Fo
 | 0 => h
 | n + 1 => (Ck.Fo.sec (h.secs n)).sub_ _
theorem Ck.Ok.tick {c : Ck} (h : c.Ok) : (tickCk c).Ok := by
 have h2 := h.sub
 unfold tickCk
 split
 ·exact h
 ·refine ⟨(h.toFo.sub_ _).secs _, ?_⟩
  rw [secsCk_sub]
  dsimp only
  omega
theorem bitCk_ok (b : Bool) {n : Int} (h : 0 ≤ n) : 0 ≤ bitCk b n ∧ bitCk b n ≤ n := by unfold bitCk; split <;> omega
theorem Ck.Ok.hold {c : Ck} (h : c.Ok) : (holdCk c).Ok := by
 have h1 := bitCk_ok c.halt (n := 64) y_c; have h2 := bitCk_ok c.carry (n := 128) y_c
 refine ⟨⟨h.s, h.m, h.h, h.day, fun x hx => ?_⟩, h.sub⟩
 have h3 := h.s; have h4 := h.m; have h5 := h.h
 simp only [holdCk, Ck.held, List.mem_cons, List.not_mem_nil, or_false] at hx
 rcases hx with rfl | rfl | rfl | rfl | rfl <;> omega
theorem Ck.Ok.write {c : Ck} (h : c.Ok) (n : Int) {x : Int} (hx : 0 ≤ x ∧ x < 256) : (writeCk n x c).Ok := by
 have h1 := h.day
 unfold writeCk
 split
 ·exact ⟨⟨y_F, h.m, h.h, h.day, h.byH⟩, y_F⟩
 split
 ·exact ⟨⟨h.s, y_F, h.h, h.day, h.byH⟩, h.sub⟩
 split
 ·exact ⟨⟨h.s, h.m, y_F, h.day, h.byH⟩, h.sub⟩
 split
 ·exact ⟨⟨h.s, h.m, h.h, y_F, h.byH⟩, h.sub⟩
 split
 ·exact ⟨⟨h.s, h.m, h.h, y_F, h.byH⟩, h.sub⟩
 ·exact h
theorem readCk_ok {c : Ck} (h : c.Ok) (n : Int) : 0 ≤ readCk n c ∧ readCk n c < 256 := by
 unfold readCk; split; omega; exact h.byH.get _
def Ck.Dy (c : Ck) : Prop := 0 ≤ c.day ∧ c.day < 512
theorem Ck.Dy.sec {c : Ck} (h : c.Dy) : (secCk c).Dy := by
 have h1 : IntKind.i64.wrap (c.day + 1) = c.day + 1 := wrap_i64 (by have := h.1; omega) (by have := h.2; omega)
 have h2 := h.1; have h3 := h.2
 unfold secCk dayCk
 dsimp only
 repeat' split
 all_goals first | exact h | (unfold Ck.Dy; dsimp only; omega)
theorem Ck.Dy.secs {c : Ck} (h : c.Dy) : ∀ n : Nat, (secsCk c n).Dy
 | 0 => h
 | n + 1 => (h.secs n).sec
theorem Ck.Dy.tick {c : Ck} (h : c.Dy) : (tickCk c).Dy := by
 unfold tickCk; split
 ·exact h
 ·exact Ck.Dy.secs (c := { c with sub := c.sub + 1 }) h _
theorem Ck.Dy.write {c : Ck} (h : c.Dy) (n : Int) {x : Int} (hx : 0 ≤ x ∧ x < 256) : (writeCk n x c).Dy := by
 have h2 := h.1; have h3 := h.2
 unfold writeCk
 repeat' split
 all_goals first | exact h | (unfold Ck.Dy; dsimp only; omega)
structure Vc where
 on : Bool
 len : Int
 lev : Int
 wait : Int
deriving DecidableEq
def cVc (v : Vc) : List Value := [.bool v.on, .int .i64 v.len, .int .i64 v.lev, .int .i64 v.wait]
theorem cVc_len (v : Vc) : (cVc v).length = 4 := rfl
structure Vc.Ok (v : Vc) : Prop where
 len : 0 ≤ v.len ∧ v.len < 65536
 lev : 0 ≤ v.lev ∧ v.lev < 65536
 wait : 0 ≤ v.wait ∧ v.wait < 65536
def vcZ : Vc := ⟨false, 0, 0, 0⟩
structure Bd where
 regs : List Int
 on : Bool
 div : Int
 step : Int
 vs : List Vc
 pitch : Int
 slide : Int
 slides : Bool
deriving DecidableEq
def cBd (b : Bd) : List Value := b.regs.map (.int .u8) ++ ([.bool b.on, .int .i64 b.div, .int .i64 b.step] ++ (flat cVc b.vs ++ [.int .i64 b.pitch, .int .i64 b.slide, .bool b.slides]))
structure Bd.Wf (b : Bd) : Prop where
 lR : b.regs.length = 48
 bR : Byts b.regs
 lV : b.vs.length = 4
 div : 0 ≤ b.div ∧ b.div < 65536
 step : 0 ≤ b.step ∧ b.step < 65536
 oV : ∀ v ∈ b.vs, v.Ok
 pitch : 0 ≤ b.pitch ∧ b.pitch < 65536
 slide : 0 ≤ b.slide ∧ b.slide < 65536
def bdZ : Bd := ⟨List.replicate 48 0, false, 0, 0, List.replicate 4 vcZ, 0, 0, false⟩
def Bd.r (b : Bd) (n : Nat) : Int := b.regs.getD n 0
def Bd.v (b : Bd) (n : Nat) : Vc := b.vs.getD n vcZ
def Bd.setV (b : Bd) (n : Nat) (x : Vc) : Bd := { b with vs := b.vs.set n x }
def longest (v : Nat) : Int := if v = 2 then 256 else 64
def readyB (v : Nat) (b : Bd) : Bool := if v = 2 then decide (b.r 10 / 128 = 1) else decide (8 ≤ b.r (5 * v + 2))
def everyB (b : Bd) : Int := b.r 0 / 16 % 8
def byB (b : Bd) : Int := b.r 0 % 8
def waitB (b : Bd) : Bd := { b with slide := if everyB b = 0 then 8 else everyB b }
def nextB (b : Bd) : Int := if b.r 0 / 8 % 2 = 1 then b.pitch - b.pitch / 2 ^ (byB b).toNat else b.pitch + b.pitch / 2 ^ (byB b).toNat
def highB (b : Bd) : Bool := decide (2047 < nextB b)
def off0 (b : Bd) : Bd := b.setV 0 { b.v 0 with on := false }
def checkB (b : Bd) : Bd := if highB b = true then off0 b else b
def lenV (b : Bd) (v : Nat) (x : Vc) : Vc := if b.r (5 * v + 4) / 64 % 2 = 0 ∨ x.len = 0 then x else { x with len := x.len - 1, on := x.on && decide (0 < x.len - 1) }
def levV (b : Bd) (v : Nat) (x : Vc) : Vc :=
 if v = 2 ∨ b.r (5 * v + 2) % 8 = 0 then x
 else if 0 < x.wait - 1 then { x with wait := x.wait - 1 }
 else { x with wait := b.r (5 * v + 2) % 8, lev := if b.r (5 * v + 2) / 8 % 2 = 1 then min (x.lev + 1) 15 else max (x.lev - 1) 0 }
def turnV (f : Bd → Nat → Vc → Vc) (b : Bd) : Nat → Bd
 | 0 => b
 | n + 1 => (turnV f b n).setV n (f (turnV f b n) n ((turnV f b n).v n))
def lengthsB (b : Bd) : Bd := turnV lenV b 4
def levelsB (b : Bd) : Bd := turnV levV b 4
def tuneB (b : Bd) : Bd := { b with pitch := nextB b, regs := (b.regs.set 3 (nextB b % 256)).set 4 (b.r 4 / 8 * 8 + nextB b / 256 % 8) }
def slideB (b : Bd) : Bd :=
 if b.slides = false then b
 else if 0 < b.slide - 1 then { b with slide := b.slide - 1 }
 else
  let c := waitB { b with slide := b.slide - 1 }
  if everyB b = 0 then c else if highB c = true then off0 c else if byB b = 0 then c else checkB (tuneB c)
def halfB (b : Bd) : Bd := if b.step % 2 = 0 then lengthsB b else b
def beatB (b : Bd) : Bd := if b.step = 2 ∨ b.step = 6 then slideB (halfB b) else if b.step = 7 then levelsB (halfB b) else halfB b
def tickB (b : Bd) : Bd :=
 if b.on = false then b else if b.div + 1 < 2048 then { b with div := b.div + 1 }
 else { beatB { b with div := 0 } with step := (b.step + 1) % 8 }
def masksB : List Int := [0x80, 0x3f, 0, 0xff, 0xbf, 0xff, 0x3f, 0, 0xff, 0xbf, 0x7f, 0xff, 0x9f, 0xff, 0xbf, 0xff, 0xff, 0, 0, 0xbf, 0, 0, 0x70]
def onV (b : Bd) : Nat → Int
 | 0 => 112 + (if b.on = true then 128 else 0)
 | n + 1 => onV b n + (if (b.v n).on = true then 2 ^ n else 0)
def readB (n : Int) (b : Bd) : Int :=
 if n < 0 ∨ 48 ≤ n ∨ (22 < n ∧ n < 32) then 255 else if 32 ≤ n then b.r n.toNat else if n < 22 then bor .u8 (b.r n.toNat) (masksB.getD n.toNat 0) else onV b 4
def startV (b : Bd) (v : Nat) : Vc := ⟨readyB v b, if (b.v v).len = 0 then longest v else (b.v v).len, b.r (5 * v + 2) / 16, b.r (5 * v + 2) % 8⟩
def slidesB (b : Bd) : Bd := { b with slides := decide (everyB b ≠ 0 ∨ byB b ≠ 0) }
def beginB (v : Nat) (b : Bd) : Bd :=
 let c := b.setV v (startV b v)
 if 0 < v then c
 else
  let d := slidesB (waitB { c with pitch := c.r 3 + c.r 4 % 8 * 256 })
  if byB b = 0 then d else checkB d
def offB (b : Bd) : Bd := { bdZ with div := b.div, step := b.step, regs := List.replicate 22 0 ++ b.regs.drop 22 }
def onB (b : Bd) : Bd := if b.on = true then b else { b with div := 0, step := 0, on := true }
def putB (n : Nat) (x : Int) (b : Bd) : Bd := { b with regs := b.regs.set n x }
def voiceB (n : Nat) (x : Int) (b : Bd) : Bd :=
 if n % 5 = 1 then b.setV (n / 5) { b.v (n / 5) with len := longest (n / 5) - x % longest (n / 5) }
 else if n % 5 = 4 then (if x / 128 = 1 then beginB (n / 5) b else b)
 else b.setV (n / 5) { b.v (n / 5) with on := (b.v (n / 5)).on && readyB (n / 5) b }
def writeBd (n x : Int) (b : Bd) : Bd :=
 if n < 0 ∨ 48 ≤ n then b
 else if n = 22 then (if x / 128 = 1 then onB b else offB b)
 else if b.on = false ∧ n < 32 then b
 else if 20 ≤ n then putB n.toNat x b else voiceB n.toNat x (putB n.toNat x b)
section
variable {b : Bd}
theorem Bd.Wf.r_ (h : b.Wf) (n : Nat) : 0 ≤ b.r n ∧ b.r n < 256 := h.bR.get n
theorem vcZ_ok : vcZ.Ok := ⟨y_eK, y_eK, y_eK⟩
theorem Bd.Wf.v_ (h : b.Wf) (n : Nat) : (b.v n).Ok := by
 unfold Bd.v
 by_cases hn : n < b.vs.length
 ·rw [List.getD_eq_getElem?_getD, List.getElem?_eq_getElem hn]; exact h.oV _ (List.getElem_mem hn)
 ·rw [List.getD_eq_getElem?_getD, List.getElem?_eq_none o_m]; exact vcZ_ok
theorem Bd.Wf.setV (h : b.Wf) (n : Nat) {x : Vc} (hx : x.Ok) : (b.setV n x).Wf := ⟨h.lR, h.bR, y_de, h.div, h.step, fun v hv => by
 rcases List.mem_or_eq_of_mem_set hv with h1 | rfl
 ·exact h.oV v h1
 ·exact hx, h.pitch, h.slide⟩
theorem Bd.Wf.put (h : b.Wf) (n : Nat) {x : Int} (hx : 0 ≤ x ∧ x < 256) : (putB n x b).Wf := ⟨by show (b.regs.set n x).length = 48; rw [List.length_set]; exact h.lR, fun y hy => by
 rcases List.mem_or_eq_of_mem_set hy with h1 | rfl
 ·exact h.bR y h1
 ·exact hx, h.lV, h.div, h.step, h.oV, h.pitch, h.slide⟩
theorem Bd.Wf.slide_ (h : b.Wf) {x : Int} (hx : 0 ≤ x ∧ x < 65536) : ({ b with slide := x } : Bd).Wf := ⟨h.lR, h.bR, h.lV, h.div, h.step, h.oV, h.pitch, hx⟩
theorem Bd.Wf.pitch_ (h : b.Wf) {x : Int} (hx : 0 ≤ x ∧ x < 65536) : ({ b with pitch := x } : Bd).Wf := ⟨h.lR, h.bR, h.lV, h.div, h.step, h.oV, hx, h.slide⟩
theorem Bd.Wf.div_ (h : b.Wf) {x : Int} (hx : 0 ≤ x ∧ x < 65536) : ({ b with div := x } : Bd).Wf := ⟨h.lR, h.bR, h.lV, hx, h.step, h.oV, h.pitch, h.slide⟩
theorem Bd.Wf.step_ (h : b.Wf) {x : Int} (hx : 0 ≤ x ∧ x < 65536) : ({ b with step := x } : Bd).Wf := ⟨h.lR, h.bR, h.lV, h.div, hx, h.oV, h.pitch, h.slide⟩
theorem every_ok (b : Bd) : 0 ≤ everyB b ∧ everyB b < 8 := by unfold everyB; omega
theorem by_ok (b : Bd) : 0 ≤ byB b ∧ byB b < 8 := by unfold byB; omega
theorem Bd.Wf.waitW (h : b.Wf) : (waitB b).Wf := h.slide_ (by have := every_ok b; split <;> omega)
theorem shr_pos_le {x : Int} (h : 0 ≤ x) (n : Nat) : 0 ≤ x / 2 ^ n ∧ x / 2 ^ n ≤ x := by
 have h2 : (0 : Int) < 2 ^ n := Int.pow_pos y_c
 exact ⟨Int.ediv_nonneg h o_m, Int.ediv_le_self _ h⟩
theorem next_ok (h : b.Wf) : 0 ≤ nextB b ∧ nextB b < 131072 := by
 have h1 := h.pitch; have h2 := shr_pos_le h1.1 (byB b).toNat
 unfold nextB; split <;> omega
theorem Bd.Wf.off0W (h : b.Wf) : (off0 b).Wf := h.setV 0 ⟨(h.v_ 0).len, (h.v_ 0).lev, (h.v_ 0).wait⟩
theorem Bd.Wf.checkW (h : b.Wf) : (checkB b).Wf := by unfold checkB; split; exact h.off0W; exact h
theorem lenV_ok (b : Bd) (v : Nat) {x : Vc} (h : x.Ok) : (lenV b v x).Ok := by
 have h1 := h.len
 unfold lenV; split
 ·exact h
 ·exact ⟨y_F, h.lev, h.wait⟩
theorem levV_ok (b : Bd) (v : Nat) {x : Vc} (h : x.Ok) : (levV b v x).Ok := by
 have h1 := h.lev; have h2 := h.wait
 unfold levV; split
 ·exact h
 split
 ·exact ⟨h.len, h.lev, y_F⟩
 ·exact ⟨h.len, by dsimp only; split <;> omega, y_F⟩
theorem Bd.Wf.turn {f : Bd → Nat → Vc → Vc} (hf : ∀ b v x, Vc.Ok x → (f b v x).Ok) (h : b.Wf) : ∀ n, (turnV f b n).Wf
 | 0 => h
 | n + 1 => (h.turn hf n).setV n (hf _ _ _ ((h.turn hf n).v_ n))
theorem tune_ok (h : b.Wf) (hn : highB b = false) : (tuneB b).Wf := by
 have h1 := next_ok h; have h4 := h.r_ 4
 have h2 : nextB b ≤ 2047 := by unfold highB at hn; have := of_decide_eq_false hn; omega
 have h3 : (putB 4 (b.r 4 / 8 * 8 + nextB b / 256 % 8) (putB 3 (nextB b % 256) b)).Wf := (h.put 3 o_m).put 4 o_m
 exact h3.pitch_ o_m
theorem Bd.Wf.slideW (h : b.Wf) : (slideB b).Wf := by
 have h1 := h.slide
 have hw : (waitB { b with slide := b.slide - 1 }).Wf := by
  have := every_ok b
  exact ⟨h.lR, h.bR, h.lV, h.div, h.step, h.oV, h.pitch, y_cn⟩
 unfold slideB
 split
 ·exact h
 split
 ·exact h.slide_ o_m
 dsimp only
 split
 ·exact hw
 split
 ·exact hw.off0W
 split
 ·exact hw
 ·exact (tune_ok hw (by simpa using ‹¬ highB _ = true›)).checkW
theorem Bd.Wf.half (h : b.Wf) : (halfB b).Wf := by unfold halfB; split; exact h.turn lenV_ok 4; exact h
theorem Bd.Wf.beat (h : b.Wf) : (beatB b).Wf := by
 unfold beatB; split; exact h.half.slideW; split; exact h.half.turn levV_ok 4; exact h.half
theorem Bd.Wf.tick (h : b.Wf) : (tickB b).Wf := by
 have h1 := h.div; have h2 := h.step
 unfold tickB
 split
 ·exact h
 split
 ·exact h.div_ o_m
 ·exact (h.div_ (x := 0) o_m).beat.step_ o_m
theorem startV_ok (h : b.Wf) (v : Nat) : (startV b v).Ok := by
 have h1 := h.r_ (5 * v + 2)
 refine ⟨?_, ?_, ?_⟩
 ·unfold startV longest; dsimp only; split
  ·split <;> omega
  ·exact (h.v_ v).len
 ·show 0 ≤ b.r (5 * v + 2) / 16 ∧ b.r (5 * v + 2) / 16 < 65536; omega
 ·show 0 ≤ b.r (5 * v + 2) % 8 ∧ b.r (5 * v + 2) % 8 < 65536; omega
theorem Bd.Wf.slidesW (h : b.Wf) : (slidesB b).Wf := ⟨h.lR, h.bR, h.lV, h.div, h.step, h.oV, h.pitch, h.slide⟩
theorem Bd.Wf.beginW (h : b.Wf) (v : Nat) : (beginB v b).Wf := by
 have hc := h.setV v (startV_ok h v)
 unfold beginB
 dsimp only
 split
 ·exact hc
 ·have h3 := hc.r_ 3
  have hd : (slidesB (waitB { b.setV v (startV b v) with pitch := (b.setV v (startV b v)).r 3 + (b.setV v (startV b v)).r 4 % 8 * 256 })).Wf := (hc.pitch_ o_m).waitW.slidesW
  split
  ·exact hd
  ·exact hd.checkW
theorem bdZ_wf : bdZ.Wf := ⟨y_eK, fun x hx => by rw [(List.mem_replicate.1 hx).2]; decide, y_eK, y_eK, y_eK, fun v hv => by rw [(List.mem_replicate.1 hv).2]; exact vcZ_ok, y_eK, y_eK⟩
theorem Bd.Wf.off (h : b.Wf) : (offB b).Wf := ⟨by show (List.replicate 22 0 ++ b.regs.drop 22).length = 48; rw [List.length_append, List.length_drop, h.lR, List.length_replicate], fun x hx => by
 rcases List.mem_append.1 hx with h1 | h1
 ·rw [(List.mem_replicate.1 h1).2]; decide
 ·exact h.bR x (List.mem_of_mem_drop h1), bdZ_wf.lV, h.div, h.step, bdZ_wf.oV, bdZ_wf.pitch, bdZ_wf.slide⟩
theorem Bd.Wf.onW (h : b.Wf) : (onB b).Wf := by unfold onB; split; exact h; exact ⟨h.lR, h.bR, h.lV, (show (0 : Int) ≤ 0 ∧ (0 : Int) < 65536 by decide), (show (0 : Int) ≤ 0 ∧ (0 : Int) < 65536 by decide), h.oV, h.pitch, h.slide⟩
theorem Bd.Wf.voice (h : b.Wf) (n : Nat) (x : Int) : (voiceB n x b).Wf := by
 have hv := h.v_ (n / 5)
 unfold voiceB
 split
 ·refine h.setV _ ⟨?_, hv.lev, hv.wait⟩
  unfold longest; dsimp only; split <;> omega
 split
 ·split
  ·exact h.beginW _
  ·exact h
 ·exact h.setV _ ⟨hv.len, hv.lev, hv.wait⟩
theorem Bd.Wf.write (h : b.Wf) (n : Int) {x : Int} (hx : 0 ≤ x ∧ x < 256) : (writeBd n x b).Wf := by
 unfold writeBd
 split
 ·exact h
 split
 ·split; exact h.onW; exact h.off
 split
 ·exact h
 split
 ·exact h.put _ hx
 ·exact (h.put _ hx).voice _ _
theorem onV_ok (b : Bd) : ∀ n : Nat, 112 ≤ onV b n ∧ onV b n ≤ 239 + 2 ^ n
 | 0 => by unfold onV; split <;> omega
 | n + 1 => by
  have h := onV_ok b n
  have h2 : (0 : Int) < 2 ^ n := Int.pow_pos y_c
  have h3 : (2 : Int) ^ (n + 1) = 2 * 2 ^ n := by rw [Int.pow_succ, Int.mul_comm]
  unfold onV; rw [h3]; split <;> omega
theorem readB_ok (h : b.Wf) (n : Int) : 0 ≤ readB n b ∧ readB n b < 256 := by
 unfold readB
 split; omega
 split; exact h.r_ _
 split; exact bor8_ok _ _
 have := onV_ok b 4
 omega
end
def rBit (x n : Int) : Int := x / 2 ^ n.toNat % 2
def hgt (c : Int) : Int := if rBit c 2 = 1 then 16 else 8
def vAt (l : List Int) (n : Int) : Int := if 0 ≤ n ∧ n < l.length ∧ n < 8192 then l.getD n.toNat 0 else 0
def tDot (l : List Int) (tile x y : Int) : Int :=
 if tile < 0 ∨ 384 ≤ tile then 0 else rBit (vAt l (16 * tile + 2 * (y % 8))) (7 - x % 8) + 2 * rBit (vAt l (16 * tile + 2 * (y % 8) + 1)) (7 - x % 8)
def shd (p c : Int) : Int := p / 2 ^ (c % 4 * 2).toNat % 4
theorem rBit_01 (x n : Int) : rBit x n = 0 ∨ rBit x n = 1 := by unfold rBit; omega
theorem vAt_byte {l : List Int} (h : Byts l) (n : Int) : 0 ≤ vAt l n ∧ vAt l n < 256 := by
 unfold vAt; split
 ·exact h.get _
 ·omega
theorem band7 (y : Int) : band .i64 y 7 = y % 8 := by
 have h : (BitVec.ofInt 64 y &&& BitVec.ofInt 64 7).toNat = (y % 18446744073709551616).toNat % 8 := by
  rw [BitVec.toNat_and]
  have h7 : (BitVec.ofInt 64 7).toNat = 2 ^ 3 - 1 := by decide
  rw [h7, Nat.and_two_pow_sub_one_eq_mod, BitVec.toNat_ofInt]
  rfl
 show IntKind.i64.wrap ((BitVec.ofInt 64 y &&& BitVec.ofInt 64 7).toNat : Int) = _
 rw [h, wrap_i64 o_m o_m]
 omega
theorem n_law (x : Int) : IntKind.i64.wrap (7 - band .i64 x 7) = 7 - x % 8 := by
 rw [band7, wrap_i64 o_m o_m]
theorem n_ok (x : Int) : 0 ≤ IntKind.i64.wrap (7 - band .i64 x 7) := by rw [n_law]; omega
theorem line_law {t : Int} (y : Int) (h : 0 ≤ t ∧ t < 384) : IntKind.i64.wrap (IntKind.i64.wrap (16 * t) + IntKind.i64.wrap (2 * band .i64 y 7)) = 16 * t + 2 * (y % 8) := by
 rw [band7, wrap_i64 (n := 16 * t) o_m o_m, wrap_i64 (n := 2 * (y % 8)) o_m o_m, wrap_i64 o_m o_m]
theorem line_ok {t : Int} (y : Int) (h : 0 ≤ t ∧ t < 384) : 0 ≤ IntKind.i64.wrap (IntKind.i64.wrap (16 * t) + IntKind.i64.wrap (2 * band .i64 y 7)) := by rw [line_law y h]; omega
theorem line1_law {t : Int} (y : Int) (h : 0 ≤ t ∧ t < 384) : IntKind.i64.wrap (IntKind.i64.wrap (IntKind.i64.wrap (16 * t) + IntKind.i64.wrap (2 * band .i64 y 7)) + 1) = 16 * t + 2 * (y % 8) + 1 := by
 rw [line_law y h, wrap_i64 o_m o_m]
theorem line1_ok {t : Int} (y : Int) (h : 0 ≤ t ∧ t < 384) : 0 ≤ IntKind.i64.wrap (IntKind.i64.wrap (IntKind.i64.wrap (16 * t) + IntKind.i64.wrap (2 * band .i64 y 7)) + 1) := by rw [line1_law y h]; omega
theorem down_law {b n : Int} (h1 : 0 ≤ b ∧ b < 256) (h2 : 0 ≤ n ∧ n < 8) : band .u8 (shr .u8 b n) 1 = rBit b n := by
 have key : ∀ m : Fin 8, ∀ c : Fin 256, band .u8 (shr .u8 (c.val : Int) (m.val : Int)) 1 = rBit (c.val : Int) (m.val : Int) := by decide +kernel
 have := key ⟨n.toNat, y_D⟩ ⟨b.toNat, y_D⟩
 simp only at this
 rwa [Int.toNat_of_nonneg h1.1, Int.toNat_of_nonneg h2.1] at this
theorem join_law {x y : Int} (hx : x = 0 ∨ x = 1) (hy : y = 0 ∨ y = 1) : bor .u8 x (shl .u8 y 1) = x + 2 * y := by
 rcases hx with rfl | rfl <;> rcases hy with rfl | rfl <;> decide
theorem pdot_law {l : List Int} (hl : Byts l) {t : Int} (x y : Int) (h : 0 ≤ t ∧ t < 384) :
  bor .u8 (band .u8 (shr .u8 (vAt l (IntKind.i64.wrap (IntKind.i64.wrap (16 * t) + IntKind.i64.wrap (2 * band .i64 y 7)))) (IntKind.i64.wrap (7 - band .i64 x 7))) 1)
   (shl .u8 (band .u8 (shr .u8 (vAt l (IntKind.i64.wrap (IntKind.i64.wrap (IntKind.i64.wrap (16 * t) + IntKind.i64.wrap (2 * band .i64 y 7)) + 1))) (IntKind.i64.wrap (7 - band .i64 x 7))) 1) 1) = tDot l t x y := by
 rw [n_law, line1_law y h, line_law y h, down_law (vAt_byte hl _) o_m, down_law (vAt_byte hl _) o_m, join_law (rBit_01 _ _) (rBit_01 _ _)]
 rw [tDot, if_neg o_m]
theorem at_some {l : List Int} {n : Int} (h : 0 ≤ n ∧ n < l.length ∧ n < 8192) : l.getD n.toNat 0 = vAt l n := by rw [vAt, if_pos h]
theorem at_none {l : List Int} {n : Int} (h : ¬ (0 ≤ n ∧ n < l.length ∧ n < 8192)) : 0 = vAt l n := by rw [vAt, if_neg h]
theorem pshd_law {p c : Int} (hp : 0 ≤ p ∧ p < 256) (hc : 0 ≤ c ∧ c < 256) : band .u8 (shr .u8 p (IntKind.u8.wrap (band .u8 c 3 * 2))) 3 = shd p c := by
 have h1 : band .u8 c 3 = c % 4 := by
  refine byte_all (p := fun c => band .u8 c 3 = c % 4) ?_ hc.1 hc.2
  decide +kernel
 rw [h1, wrap_u8_id o_m o_m]
 have key : ∀ m : Fin 4, ∀ q : Fin 256, band .u8 (shr .u8 (q.val : Int) ((m.val : Int) * 2)) 3 = (q.val : Int) / 2 ^ (2 * m.val) % 4 := by decide +kernel
 have := key ⟨(c % 4).toNat, y_D⟩ ⟨p.toNat, y_D⟩
 simp only at this
 rw [Int.toNat_of_nonneg hp.1, Int.toNat_of_nonneg o_m] at this
 rw [this, shd]
 congr 3
 omega
theorem dot_none {l : List Int} {t x y : Int} (h : t < 0 ∨ 384 ≤ t) : 0 = tDot l t x y := by rw [tDot, if_pos h]
theorem phgt_law {c : Int} (hc : 0 ≤ c ∧ c < 256) {b : Bool} (h : (band .u8 c 4 != 0) = b) : (bif b then (16 : Int) else 8) = hgt c := by
 subst h
 refine byte_all (p := fun c => (bif (band .u8 c 4 != 0) then (16 : Int) else 8) = hgt c) ?_ hc.1 hc.2
 decide +kernel
theorem hgt_two (c : Int) : hgt c = 8 ∨ hgt c = 16 := by unfold hgt; split <;> simp
def oB (l : List Int) (n : Int) (k : Nat) : Int := l.getD (4 * n.toNat + k) 0
theorem oB_byte {l : List Int} (h : Byts l) (n : Int) (k : Nat) : 0 ≤ oB l n k ∧ oB l n k < 256 := h.get _
def sDot (l : List Int) (c y x0 tile how x line : Int) : Int :=
 if line < y ∨ y + hgt c ≤ line ∨ x < x0 ∨ x0 + 8 ≤ x then 0 else
 let row := if rBit how 6 = 1 then hgt c - 1 - (line - y) else line - y
 let col := if rBit how 5 = 1 then 7 - (x - x0) else x - x0
 tDot l (if hgt c = 16 then tile / 2 * 2 + row / 8 else tile) col row
theorem bitOf6 {c : Int} (hc : 0 ≤ c ∧ c < 256) : (band .u8 c 64 != 0) = decide (rBit c 6 = 1) := by
 refine byte_all (p := fun c => (band .u8 c 64 != 0) = decide (rBit c 6 = 1)) ?_ hc.1 hc.2
 decide +kernel
theorem bitOf5 {c : Int} (hc : 0 ≤ c ∧ c < 256) : (band .u8 c 32 != 0) = decide (rBit c 5 = 1) := by
 refine byte_all (p := fun c => (band .u8 c 32 != 0) = decide (rBit c 5 = 1)) ?_ hc.1 hc.2
 decide +kernel
theorem tile_law {t r : Int} (ht : 0 ≤ t ∧ t < 256) (hr : 0 ≤ r ∧ r < 16) : bor .i64 (bandn .i64 t 1) (shr .i64 r 3) = t / 2 * 2 + r / 8 := by
 have key : ∀ r : Fin 16, ∀ t : Fin 256, bor .i64 (bandn .i64 (t.val : Int) 1) (shr .i64 (r.val : Int) 3) = (t.val : Int) / 2 * 2 + (r.val : Int) / 8 := by decide +kernel
 have := key ⟨r.toNat, y_D⟩ ⟨t.toNat, y_D⟩
 simp only at this
 rwa [Int.toNat_of_nonneg ht.1, Int.toNat_of_nonneg hr.1] at this
theorem psdot_law {l : List Int} {c y x0 tile how x line : Int} (hy : -16 ≤ y ∧ y ≤ 240) (hx : -8 ≤ x0 ∧ x0 ≤ 248) (ht : 0 ≤ tile ∧ tile < 256) (hh : 0 ≤ how ∧ how < 256)
  (h1 : y ≤ line ∧ line < IntKind.i64.wrap (y + hgt c)) (h2 : x0 ≤ x ∧ x < IntKind.i64.wrap (x0 + 8)) {bu bt bh : Bool}
  (hu : (band .u8 how 64 != 0) = bu) (htn : (band .u8 how 32 != 0) = bt) (hth : decide (hgt c > 8) = bh) :
  tDot l (bif bh then bor .i64 (bandn .i64 tile 1) (shr .i64 (bif bu then IntKind.i64.wrap (IntKind.i64.wrap (hgt c - 1) - IntKind.i64.wrap (line - y)) else IntKind.i64.wrap (line - y)) 3) else tile)
   (bif bt then IntKind.i64.wrap (7 - IntKind.i64.wrap (x - x0)) else IntKind.i64.wrap (x - x0))
   (bif bu then IntKind.i64.wrap (IntKind.i64.wrap (hgt c - 1) - IntKind.i64.wrap (line - y)) else IntKind.i64.wrap (line - y)) = sDot l c y x0 tile how x line := by
 have hg := hgt_two c
 rw [wrap_i64 (n := y + hgt c) o_m o_m] at h1
 rw [wrap_i64 (n := x0 + 8) o_m o_m] at h2
 rw [wrap_i64 (n := line - y) o_m o_m, wrap_i64 (n := hgt c - 1) o_m o_m, wrap_i64 (n := hgt c - 1 - (line - y)) o_m o_m, wrap_i64 (n := x - x0) o_m o_m,
  wrap_i64 (n := 7 - (x - x0)) o_m o_m]
 rw [bitOf6 hh] at hu
 rw [bitOf5 hh] at htn
 rw [sDot, if_neg o_m]
 have hrow : (bif bu then hgt c - 1 - (line - y) else line - y) = (if rBit how 6 = 1 then hgt c - 1 - (line - y) else line - y) := by
  subst hu; by_cases h : rBit how 6 = 1 <;> simp [h]
 have hcol : (bif bt then 7 - (x - x0) else x - x0) = (if rBit how 5 = 1 then 7 - (x - x0) else x - x0) := by
  subst htn; by_cases h : rBit how 5 = 1 <;> simp [h]
 rw [hrow, hcol]
 have hr0 : 0 ≤ (if rBit how 6 = 1 then hgt c - 1 - (line - y) else line - y) ∧ (if rBit how 6 = 1 then hgt c - 1 - (line - y) else line - y) < 16 := by split <;> omega
 generalize (if rBit how 6 = 1 then hgt c - 1 - (line - y) else line - y) = row at *
 rw [tile_law ht hr0]
 subst hth
 rcases hg with hg | hg <;> simp [hg]
theorem psdot_none {l : List Int} {c y x0 tile how x line : Int} (hy : -16 ≤ y ∧ y ≤ 240) (hx : -8 ≤ x0 ∧ x0 ≤ 248) (h : ¬ ((y ≤ line ∧ line < IntKind.i64.wrap (y + hgt c)) ∧ (x0 ≤ x ∧ x < IntKind.i64.wrap (x0 + 8)))) :
  0 = sDot l c y x0 tile how x line := by
 have hg := hgt_two c
 rw [wrap_i64 (n := y + hgt c) o_m o_m, wrap_i64 (n := x0 + 8) o_m o_m] at h
 rw [sDot, if_pos o_m]
theorem four_law {l : List Int} {n : Int} (hn : 0 ≤ n ∧ n < 40) (h : 4 * n < (l.length : Int)) :
  putL [Value.int .u8 0, .int .u8 0, .int .u8 0, .int .u8 0] 0 ((((l.map (Value.int .u8)).drop (4 * n).toNat).take (l.length - (4 * n).toNat)).take (min (l.length - (4 * n).toNat) 4)) =
   [.int .u8 (oB l n 0), .int .u8 (oB l n 1), .int .u8 (oB l n 2), .int .u8 (oB l n 3)] := by
 have e : (4 * n).toNat = 4 * n.toNat := by omega
 rw [e]
 generalize hm : n.toNat = m at *
 have hm2 : 4 * m < l.length := by omega
 have hd : ∀ k, (l.drop (4 * m)).getD k 0 = l.getD (4 * m + k) 0 := fun k => by simp [List.getD_eq_getElem?_getD, List.getElem?_drop]
 unfold oB
 rw [hm, ← hd 0, ← hd 1, ← hd 2, ← hd 3]
 have hlen : (l.drop (4 * m)).length = l.length - 4 * m := by simp
 simp only [← List.map_drop, ← List.map_take]
 rw [← hlen, List.take_of_length_le (Nat.le_refl _)]
 match hq : l.drop (4 * m), hlen with
 | [], h0 => simp at h0; omega
 | [a], _ => rfl
 | [a, b], _ => rfl
 | [a, b, c], _ => rfl
 | a :: b :: c :: d :: r, _ =>
  have : min (a :: b :: c :: d :: r).length 4 = 4 := by simp
  rw [this]; rfl
theorem four_none {l : List Int} {n : Int} (hn : 0 ≤ n ∧ n < 40) (h : ¬ 4 * n < (l.length : Int)) (k : Nat) : 0 = oB l n k := by
 unfold oB
 rw [List.getD_eq_getElem?_getD, List.getElem?_eq_none o_m]; rfl
theorem of_law {l : List Int} (hl : Byts l) (n : Int) : (Value.agg #[.int .i64 n, .int .i64 (IntKind.i64.wrap (IntKind.i64.wrap (oB l n 0) - 16)), .int .i64 (IntKind.i64.wrap (IntKind.i64.wrap (oB l n 1) - 8)), .int .i64 (IntKind.i64.wrap (oB l n 2)), .int .u8 (oB l n 3)]) =
  .agg #[.int .i64 n, .int .i64 (oB l n 0 - 16), .int .i64 (oB l n 1 - 8), .int .i64 (oB l n 2), .int .u8 (oB l n 3)] := by
 have h0 := oB_byte hl n 0
 have h1 := oB_byte hl n 1
 have h2 := oB_byte hl n 2
 rw [wrap_i64 (n := oB l n 0) o_m o_m, wrap_i64 (n := oB l n 0 - 16) o_m o_m, wrap_i64 (n := oB l n 1) o_m o_m, wrap_i64 (n := oB l n 1 - 8) o_m o_m, wrap_i64 (n := oB l n 2) o_m o_m]
theorem four_none' {l : List Int} {n : Int} (hn : 0 ≤ n ∧ n < 40) (h : ¬ 4 * n < (l.length : Int)) :
  [Value.int .u8 0, .int .u8 0, .int .u8 0, .int .u8 0] = [.int .u8 (oB l n 0), .int .u8 (oB l n 1), .int .u8 (oB l n 2), .int .u8 (oB l n 3)] := by
 rw [← four_none hn h 0, ← four_none hn h 1, ← four_none hn h 2, ← four_none hn h 3]
def hasB (oam : List Int) (c line : Int) (n : Nat) : Bool := decide (oB oam n 0 - 16 ≤ line) && decide (line < oB oam n 0 - 16 + hgt c)
def scanK (oam : List Int) (c line : Int) (k : Nat) : List Int := ((List.range k).filter (hasB oam c line)).map (fun n : Nat => (n : Int))
def scan (oam : List Int) (c line : Int) : List Int := (scanK oam c line 40).take 10
theorem scanK_len (oam : List Int) (c line : Int) (k : Nat) : (scanK oam c line k).length ≤ k := by
 simp only [scanK, List.length_map]
 have := List.length_filter_le (hasB oam c line) (List.range k)
 simpa using this
theorem scanK_yes {oam : List Int} {c line : Int} {k : Nat} (h : hasB oam c line k = true) : scanK oam c line (k + 1) = scanK oam c line k ++ [(k : Int)] := by
 simp [scanK, List.range_succ, List.filter_append, h]
theorem scanK_no {oam : List Int} {c line : Int} {k : Nat} (h : hasB oam c line k = false) : scanK oam c line (k + 1) = scanK oam c line k := by
 simp [scanK, List.range_succ, List.filter_append, h]
theorem has_law {oam : List Int} (ho : Byts oam) {c line : Int} {n : Nat} {b : Bool} (h : (decide (oB oam n 0 - 16 ≤ line) && decide (line < IntKind.i64.wrap (oB oam n 0 - 16 + hgt c))) = b) : hasB oam c line n = b := by
 have h0 := oB_byte ho n 0
 have hg := hgt_two c
 rw [wrap_i64 o_m o_m] at h
 exact h
theorem vec_yes {oam : List Int} {c line : Int} {k : Nat} {v : Value} {G : Heap} (h : hasB oam c line k = true) (hv : Vec 3 1 v ((scanK oam c line k).length + 1) ((scanK oam c line k).map (.int .i64) ++ [.int .i64 k]) G) :
  Vec 3 1 v (scanK oam c line (k + 1)).length ((scanK oam c line (k + 1)).map (.int .i64)) G := by
 rw [scanK_yes h]; simpa using hv
theorem vec_no {oam : List Int} {c line : Int} {k : Nat} {v : Value} {G : Heap} (h : hasB oam c line k = false) (hv : Vec 3 1 v (scanK oam c line k).length ((scanK oam c line k).map (.int .i64)) G) :
  Vec 3 1 v (scanK oam c line (k + 1)).length ((scanK oam c line (k + 1)).map (.int .i64)) G := by
 rw [scanK_no h]; exact hv
theorem vec_zero (oam : List Int) (c line : Int) : Vec 3 1 (.slice none 0 0) (scanK oam c line 0).length ((scanK oam c line 0).map (.int .i64)) [] := .nil
theorem scan_len (oam : List Int) (c line : Int) : (scan oam c line).length = min (scanK oam c line 40).length 10 := by rw [scan, List.length_take, Nat.min_comm]
theorem take_pre {α β : Type} (f : α → β) (l : List α) (r : List β) (n : Nat) (j : Nat) (v : β) (h : ((l.take n).map f)[j]? = some v) : (l.map f ++ r)[j]? = some v := by
 rw [List.map_take, List.getElem?_take] at h
 split at h
 ·have hj : j < (l.map f).length := by
   rcases Nat.lt_or_ge j (l.map f).length with h1 | h1
   ·exact h1
   ·rw [List.getElem?_eq_none h1] at h; cases h
  rw [List.getElem?_append_left hj]; exact h
 ·cases h
theorem cut1_zero (cap : Nat) : cut1 0 0 cap = 0 := by simp [cut1]
theorem scan_nil {oam : List Int} {c line : Int} (hm : (scanK oam c line 40).length = 0) : Lst .i64 (scan oam c line) (.slice none 0 0) [] := by
 have : scan oam c line = [] := List.eq_nil_of_length_eq_zero (by rw [scan_len]; omega)
 rw [this]; exact .nil
theorem scan_row {oam : List Int} {c line : Int} {n cap b : Nat} {xs sp : List Value} (hm : (scanK oam c line 40).length = n) (hx : (scanK oam c line 40).map (Value.int .i64) = xs) (hle : n ≤ cap) :
  Lst .i64 (scan oam c line) (.slice (some ⟨b, cut1 0 0 cap, none⟩) (min n 10 - 0) (cap - 0)) [(b, blk (xs ++ sp) 3)] := by
 rw [cut1_zero]
 refine Lst.of_row (by rw [scan_len]; omega) (by rw [scan_len]; omega) (fun j v hv => ?_)
 subst hx
 exact take_pre _ _ _ _ j v hv
structure Vw where
 c : Int
 sx : Int
 sy : Int
 wx : Int
 wy : Int
def cV (v : Vw) : List Value := [.int .u8 v.c, .int .u8 v.sx, .int .u8 v.sy, .int .u8 v.wx, .int .u8 v.wy]
structure Vw.Ok (v : Vw) : Prop where
 c : 0 ≤ v.c ∧ v.c < 256
 sx : 0 ≤ v.sx ∧ v.sx < 256
 sy : 0 ≤ v.sy ∧ v.sy < 256
 wx : 0 ≤ v.wx ∧ v.wx < 256
 wy : 0 ≤ v.wy ∧ v.wy < 256
def tNum (c b : Int) : Int := if rBit c 4 = 1 then b else if 127 < b then b else 256 + b
def tSpot (l : List Int) (c n px py : Int) : Int := tDot l (tNum c (vAt l ((if rBit c n = 1 then 7168 else 6144) + 32 * (py / 8) + px / 8))) px py
def tBack (l : List Int) (v : Vw) (x y : Int) : Int := tSpot l v.c 3 ((x + v.sx) % 256) ((y + v.sy) % 256)
def tWin (l : List Int) (v : Vw) (x y : Int) : Int := tSpot l v.c 6 (x % 256) (y % 256)
def tSeen (v : Vw) (line : Int) : Bool := decide (rBit v.c 0 = 1) && (decide (rBit v.c 5 = 1) && (decide (v.wy ≤ line) && decide (v.wx ≤ 166)))
def tPix (l : List Int) (v : Vw) (line own : Int) (x : Nat) : Int :=
 if rBit v.c 0 = 1 then (if tSeen v line = true ∧ 0 ≤ (x : Int) + 7 - v.wx then tWin l v ((x : Int) + 7 - v.wx) own else tBack l v x line) else 0
def tLine (l : List Int) (v : Vw) (line own : Int) : List Int := (List.range 160).map (tPix l v line own)
theorem tLine_len (l : List Int) (v : Vw) (line own : Int) : (tLine l v line own).length = 160 := by simp [tLine]
theorem tLine_vals (l : List Int) (v : Vw) (line own : Int) : (tLine l v line own).map (Value.int .u8) = upTo .u8 (tPix l v line own) 160 160 := by simp [tLine, upTo_all, List.map_map, Function.comp_def]
theorem tDot4 (l : List Int) (t x y : Int) : 0 ≤ tDot l t x y ∧ tDot l t x y < 4 := by
 unfold tDot
 have h1 := rBit_01 (vAt l (16 * t + 2 * (y % 8))) (7 - x % 8)
 have h2 := rBit_01 (vAt l (16 * t + 2 * (y % 8) + 1)) (7 - x % 8)
 split <;> omega
theorem tPix_four (l : List Int) (v : Vw) (line own : Int) (x : Nat) : 0 ≤ tPix l v line own x ∧ tPix l v line own x < 4 := by
 unfold tPix tWin tBack tSpot
 split
 ·split <;> exact tDot4 _ _ _ _
 ·omega
theorem tLine_byts (l : List Int) (v : Vw) (line own : Int) : Byts (tLine l v line own) := fun x hx => by
 obtain ⟨k, _, rfl⟩ := List.mem_map.1 hx
 have := tPix_four l v line own k
 omega
theorem bitOf0 {c : Int} (hc : 0 ≤ c ∧ c < 256) : (band .u8 c 1 == 0) = decide (rBit c 0 = 0) :=
 byte_all (p := fun c => (band .u8 c 1 == 0) = decide (rBit c 0 = 0)) y_A hc.1 hc.2
theorem bitOf3 {c : Int} (hc : 0 ≤ c ∧ c < 256) : (band .u8 c 8 != 0) = decide (rBit c 3 = 1) :=
 byte_all (p := fun c => (band .u8 c 8 != 0) = decide (rBit c 3 = 1)) y_A hc.1 hc.2
theorem bitOf4 {c : Int} (hc : 0 ≤ c ∧ c < 256) : (band .u8 c 16 != 0) = decide (rBit c 4 = 1) :=
 byte_all (p := fun c => (band .u8 c 16 != 0) = decide (rBit c 4 = 1)) y_A hc.1 hc.2
theorem byte_num {b : Int} (hb : 0 ≤ b ∧ b < 256) : IntKind.i64.wrap (256 + IntKind.i64.wrap (IntKind.i8.wrap b)) = if 127 < b then b else 256 + b :=
 byte_all (p := fun b => IntKind.i64.wrap (256 + IntKind.i64.wrap (IntKind.i8.wrap b)) = if 127 < b then b else 256 + b) y_A hb.1 hb.2
theorem tNum_yes {c b : Int} (h : rBit c 4 = 1) : tNum c b = b := by unfold tNum; rw [if_pos h]
theorem tNum_no {c b : Int} (h : ¬ rBit c 4 = 1) : tNum c b = if 127 < b then b else 256 + b := by unfold tNum; rw [if_neg h]
theorem pix_off {l : List Int} {v : Vw} {line own : Int} (x : Nat) (h : rBit v.c 0 = 0) : tPix l v line own x = 0 := by unfold tPix; rw [if_neg o_m]
theorem pix_win {l : List Int} {v : Vw} {line own : Int} {x : Nat} (h : rBit v.c 0 = 1) (hs : tSeen v line = true) (hx : 0 ≤ (x : Int) + 7 - v.wx) : tWin l v ((x : Int) + 7 - v.wx) own = tPix l v line own x := by
 unfold tPix; rw [if_pos h, if_pos ⟨hs, hx⟩]
theorem pix_back {l : List Int} {v : Vw} {line own : Int} {x : Nat} (h : rBit v.c 0 = 1) (hs : ¬ (tSeen v line = true ∧ 0 ≤ (x : Int) + 7 - v.wx)) : tBack l v x line = tPix l v line own x := by
 unfold tPix; rw [if_pos h, if_neg hs]
theorem tLine_off {l : List Int} {v : Vw} {line own : Int} (h : rBit v.c 0 = 0) : tLine l v line own = List.replicate 160 0 := by
 refine List.eq_replicate_iff.2 ⟨tLine_len _ _ _ _, fun x hx => ?_⟩
 obtain ⟨k, _, rfl⟩ := List.mem_map.1 hx
 exact pix_off _ h
theorem tSeen_off {v : Vw} {line : Int} (h : rBit v.c 0 = 0) : tSeen v line = false := by unfold tSeen; rw [h]; rfl
theorem num_yes {c b : Int} (hc : 0 ≤ c ∧ c < 256) (hb : 0 ≤ b ∧ b < 256) (h : (band .u8 c 16 != 0) = true) : IntKind.i64.wrap b = tNum c b := by
 rw [bitOf4 hc] at h
 rw [wrap_i64 o_m o_m, tNum_yes (by simpa using h)]
theorem num_no {c b : Int} (hc : 0 ≤ c ∧ c < 256) (hb : 0 ≤ b ∧ b < 256) (h : (band .u8 c 16 != 0) = false) : IntKind.i64.wrap (256 + IntKind.i64.wrap (IntKind.i8.wrap b)) = tNum c b := by
 rw [bitOf4 hc] at h
 rw [byte_num hb, tNum_no (by simpa using h)]
theorem tSpot_yes {l : List Int} {c n px py : Int} (h : rBit c n = 1) : tSpot l c n px py = tDot l (tNum c (vAt l (7168 + 32 * (py / 8) + px / 8))) px py := by unfold tSpot; rw [if_pos h]
theorem tSpot_no {l : List Int} {c n px py : Int} (h : ¬ rBit c n = 1) : tSpot l c n px py = tDot l (tNum c (vAt l (6144 + 32 * (py / 8) + px / 8))) px py := by unfold tSpot; rw [if_neg h]
theorem u8_eighth {x : Int} (h : 0 ≤ x ∧ x < 256) : IntKind.u8.wrap (x.tdiv 8) = x / 8 := by
 rw [Int.tdiv_eq_ediv_of_nonneg h.1, wrap_u8_id o_m o_m]
theorem mod256 (x : Int) : 0 ≤ x % 256 ∧ x % 256 < 256 := by omega
theorem seen_a {v : Vw} {line : Int} (hv : v.Ok) (h : (band .u8 v.c 32 != 0) = false) : false = tSeen v line := by
 rw [bitOf5 hv.c] at h
 unfold tSeen; rw [h]; simp
theorem seen_b {v : Vw} {line : Int} (h : decide (v.wy ≤ line) = false) : false = tSeen v line := by
 unfold tSeen; rw [h]; simp
theorem seen_c {v : Vw} {line : Int} (hv : v.Ok) (h0 : (band .u8 v.c 1 == 0) = false) (h : (band .u8 v.c 32 != 0) = true) (h2 : decide (v.wy ≤ line) = true) : decide (v.wx ≤ 166) = tSeen v line := by
 rw [bitOf5 hv.c] at h
 rw [bitOf0 hv.c] at h0
 have h1 : rBit v.c 0 = 1 := by have := rBit_01 v.c 0; simp at h0; omega
 unfold tSeen; rw [h, h2, h1]; simp
theorem bit0_on {c : Int} (hc : 0 ≤ c ∧ c < 256) (h0 : (band .u8 c 1 == 0) = false) : rBit c 0 = 1 := by
 rw [bitOf0 hc] at h0
 have := rBit_01 c 0
 simp at h0; omega
theorem bit0_off {c : Int} (hc : 0 ≤ c ∧ c < 256) (h0 : (band .u8 c 1 == 0) = true) : rBit c 0 = 0 := by
 rw [bitOf0 hc] at h0; simpa using h0
end Go.Proofs.YtldehodcfajpjaaGreat
