/- Parts. -/
import Derived.Test.YthigpmaadmneaaaGreatDoorQsC
set_option maxRecDepth 100000
set_option maxHeartbeats 1000000
set_option linter.all false
namespace Go.Proofs.YthigpmaadmneaaaGreatDoor
open Go Go.VV Go.Proofs Go.RowKit
structure Tm where
 cnt : Int
 tima : Int
 tma : Int
 tac : Int
 over : Bool
deriving DecidableEq
def iZ (t : Tm) : AA := [.int .u16 t.cnt, .int .u8 t.tima, .int .u8 t.tma, .int .u8 t.tac, .bool t.over]
structure Tm.Ok (t : Tm) : Prop where
 cnt : 0 ≤ t.cnt ∧ t.cnt < 65536
 tima : 0 ≤ t.tima ∧ t.tima < 256
 tma : 0 ≤ t.tma ∧ t.tma < 256
 tac : 0 ≤ t.tac ∧ t.tac < 256
def Qd (tac : Int) : Nat := if tac % 4 = 0 then 9 else if tac % 4 = 1 then 3 else if tac % 4 = 2 then 5 else 7
def xJ (t : Tm) : Bool := decide (t.tac / 4 % 2 = 1) && decide (t.cnt / 2 ^ Qd t.tac % 2 = 1)
def wL (t : Tm) : Tm := { t with tima := (t.tima + 1) % 256, over := t.over || (t.tima + 1) % 256 == 0 }
def Dc (was : Bool) (t : Tm) : Tm := if was = true ∧ xJ t = false then wL t else t
def oO (g : Tm → Tm) (t : Tm) : Tm := Dc (xJ t) (g t)
def Zo (t : Tm) : Tm := if t.over = true then { t with tima := t.tma, over := false } else t
def nR (t : Tm) : Tm := { t with cnt := (t.cnt + 4) % 65536 }
def vO (t : Tm) : Tm := oO nR (Zo t)
def readTm (n : Int) (t : Tm) : Int := if n = 0 then t.cnt / 256 else if n = 1 then t.tima else if n = 2 then t.tma else if n = 3 then 248 + t.tac % 8 else 255
def nI (t : Tm) : Tm := { t with cnt := 0 }
def nU (x : Int) (t : Tm) : Tm := { t with tac := x % 8 }
def writeTm (n x : Int) (t : Tm) : Tm := if n = 0 then oO nI t else if n = 1 then { t with tima := x, over := false } else if n = 2 then { t with tma := x } else if n = 3 then oO (nU x) t else t
def sig_off {t : Tm} (h : t.tac / 4 % 2 * 4 = 0) : false = xJ t := by unfold xJ; rw [cz I]; rfl
def Uj {t : Tm} (d : Int) (h : ¬ t.tac / 4 % 2 * 4 = 0) (hd : (2 : Int) ^ Qd t.tac = d) : (t.cnt / d % 2 == 1) = xJ t := by unfold xJ; rw [hd, ap I, ic]; rfl
def Sd {t : Tm} {k : Int} {n : Nat} (h : t.tac % 4 = k) (hk : k = 0 ∧ n = 9 ∨ k = 1 ∧ n = 3 ∨ k = 2 ∧ n = 5 ∨ k = 3 ∧ n = 7) : Qd t.tac = n := by
 unfold Qd; rcases hk with ⟨rfl, rfl⟩ | ⟨rfl, rfl⟩ | ⟨rfl, rfl⟩ | ⟨rfl, rfl⟩ <;> simp [h]
def Et {was : Bool} {t : Tm} (h : was = false ∨ xJ t = true) : t = Dc was t := by unfold Dc; rw [ae (by rintro ⟨h1, h2⟩; rcases h with h | h <;> simp_all)]
def Ha {was : Bool} {t : Tm} (h1 : was = true) (h2 : xJ t = false) : wL t = Dc was t := by unfold Dc; rw [ag ⟨h1, h2⟩]
def Tm.Ok.inc {t : Tm} (h : t.Ok) : (wL t).Ok := ⟨h.cnt, by unfold wL; dsimp only; omega, h.tma, h.tac⟩
def Tm.Ok.fall {t : Tm} (h : t.Ok) (b : Bool) : (Dc b t).Ok := by unfold Dc; split; exact h.inc; exact h
def Tm.Ok.irq {t : Tm} (h : t.Ok) : (Zo t).Ok := by unfold Zo; split; exact ⟨h.cnt, h.tma, h.tma, h.tac⟩; exact h
def Tm.Ok.step {t : Tm} (h : t.Ok) : (nR t).Ok := ⟨by unfold nR; dsimp only; omega, h.tima, h.tma, h.tac⟩
def Tm.Ok.tick {t : Tm} (h : t.Ok) : (vO t).Ok := h.irq.step.fall _
def Tm.Ok.zero {t : Tm} (h : t.Ok) : (nI t).Ok := ⟨by unfold nI; dsimp only; omega, h.tima, h.tma, h.tac⟩
def Tm.Ok.tac_ {t : Tm} (h : t.Ok) (x : Int) : (nU x t).Ok := ⟨h.cnt, h.tima, h.tma, by unfold nU; dsimp only; omega⟩
def Tm.Ok.write {t : Tm} (h : t.Ok) (n : Int) {x : Int} (hx : 0 ≤ x ∧ x < 256) : (writeTm n x t).Ok := by
 unfold writeTm
 split
 ·exact h.zero.fall _
 split
 ·exact ⟨h.cnt, hx, h.tma, h.tac⟩
 split
 ·exact ⟨h.cnt, h.tima, hx, h.tac⟩
 split
 ·exact (h.tac_ x).fall _
 ·exact h
def aFL {t : Tm} (h : t.Ok) (n : Int) : 0 ≤ readTm n t ∧ readTm n t < 256 := by
 have h1 := h.cnt; have h2 := h.tima; have h3 := h.tma
 unfold readTm; split; omega; split; omega; split; omega; split <;> omega
structure Pt where
 data : Int
 control : Int
 last : Int
 bits : Int
 count : Int
 sent : Int
deriving DecidableEq
def pQ (p : Pt) : AA := [.int .u8 p.data, .int .u8 p.control, .int .u8 p.last, .int .i64 p.bits, .int .i64 p.count, .int .i64 p.sent]
structure Pt.Ok (p : Pt) : Prop where
 data : 0 ≤ p.data ∧ p.data < 256
 control : 0 ≤ p.control ∧ p.control < 256
 last : 0 ≤ p.last ∧ p.last < 256
 bits : 0 ≤ p.bits ∧ p.bits < 65536
 count : 0 ≤ p.count ∧ p.count < 65536
 sent : 0 ≤ p.sent ∧ p.sent < 65536
def shiftPt (p : Pt) : Pt := { p with count := 0, data := p.data % 128 * 2 + 1, bits := p.bits - 1 }
def tickPt (p : Pt) : Pt :=
 if p.bits < 1 then p else if p.count + 1 < 128 then { p with count := p.count + 1 }
 else if 0 < p.bits - 1 then shiftPt p else { shiftPt p with control := p.control % 128 }
def uF (p : Pt) : Bool := decide (¬ p.bits < 1 ∧ ¬ p.count + 1 < 128 ∧ ¬ 0 < p.bits - 1)
def readPt (n : Int) (p : Pt) : Int := if n = 0 then p.data else if n = 1 then p.control / 128 * 128 + 126 + p.control % 2 else 255
def beginPt (p : Pt) : Pt := { p with bits := 8, count := 0, last := p.data, sent := (p.sent + 1) % 65536 }
def writePt (n x : Int) (p : Pt) : Pt :=
 if n = 0 then { p with data := x }
 else if n = 1 then (if x / 128 = 1 ∧ x % 2 = 1 then beginPt { p with control := x / 128 * 128 + x % 2, bits := 0 } else { p with control := x / 128 * 128 + x % 2, bits := 0 })
 else p
def Pt.Ok.tick {p : Pt} (h : p.Ok) : (tickPt p).Ok := by
 have h1 := h.data; have h2 := h.control; have h4 := h.bits; have h5 := h.count
 unfold tickPt
 split
 ·exact h
 split
 ·exact ⟨h.data, h.control, h.last, h.bits, fU, h.sent⟩
 split
 ·exact ⟨Hg, h.control, h.last, Hg, Hg, h.sent⟩
 ·exact ⟨Hg, fU, h.last, Hg, Hg, h.sent⟩
def Pt.Ok.write {p : Pt} (h : p.Ok) (n : Int) {x : Int} (hx : 0 ≤ x ∧ x < 256) : (writePt n x p).Ok := by
 have h6 := h.sent
 unfold writePt
 split
 ·exact ⟨hx, h.control, h.last, h.bits, h.count, h.sent⟩
 split
 ·split
  ·exact ⟨h.data, Tl, h.data, Tl, Tl, Tl⟩
  ·exact ⟨h.data, fU, h.last, fU, h.count, h.sent⟩
 ·exact h
def aHo {p : Pt} (h : p.Ok) (n : Int) : 0 ≤ readPt n p ∧ readPt n p < 256 := by
 have h1 := h.data; have h2 := h.control
 unfold readPt; split; omega; split <;> omega
structure Cp where
 page : Int
 left : Int
deriving DecidableEq
def cCp (c : Cp) : AA := [.int .u8 c.page, .int .i64 c.left]
structure Cp.Ok (c : Cp) : Prop where
 page : 0 ≤ c.page ∧ c.page < 256
 left : 0 ≤ c.left ∧ c.left < 65536
def fromCp (c : Cp) : Int := if 224 ≤ c.page then (c.page - 32) * 256 else c.page * 256
def yD (c : Cp) : Bool := decide (0 < c.left)
def tickCp (c : Cp) : Cp := if 0 < c.left then { c with left := c.left - 1 } else c
def wR (c : Cp) : Int := if 0 < c.left then (fromCp c + (160 - c.left)) % 65536 else 0
def De (c : Cp) : Int := if 0 < c.left then 160 - c.left else 0
def letsCp (c : Cp) (a : Int) : Bool := !yD c || decide (65280 ≤ a)
def Fa (x : Int) : Cp := ⟨x, 160⟩
def Cp.Ok.tick {c : Cp} (h : c.Ok) : (tickCp c).Ok := by
 have h1 := h.left
 unfold tickCp; split; exact ⟨h.page, fU⟩; exact h
def aJ7 (c : Cp) : 0 ≤ wR c ∧ wR c < 65536 := by unfold wR; split <;> omega
structure Pd where
 sel : Int
 down : Int
deriving DecidableEq
def mT (p : Pd) : AA := [.int .u8 p.sel, .int .u8 p.down]
structure Pd.Ok (p : Pd) : Prop where
 sel : 0 ≤ p.sel ∧ p.sel < 256
 down : 0 ≤ p.down ∧ p.down < 256
def Dx (p : Pd) : Int := if aQ .u8 p.sel 16 = 0 then bL .u8 0 p.down else 0
def xY (p : Pd) : Int := aQ .u8 (if aQ .u8 p.sel 32 = 0 then bL .u8 (Dx p) (shr .u8 p.down 4) else Dx p) 15
def Sh (p : Pd) : Int := bL .u8 (bL .u8 192 (aQ .u8 p.sel 48)) (aQ .u8 (mK .u8 255 (xY p)) 15)
def xB (p q : Pd) : Bool := lB .u8 (xY q) (xY p) != 0
def qN (x : Int) (p : Pd) : Pd := ⟨aQ .u8 x 48, p.down⟩
def rH (x : Int) (p : Pd) : Pd := ⟨p.sel, x⟩
def aDX (x : Int) : 0 ≤ IntKind.u8.wrap x ∧ IntKind.u8.wrap x < 256 := by rw [nQ]; omega
def N3 (x y : Int) : 0 ≤ aQ .u8 x y ∧ aQ .u8 x y < 256 := aDX _
def Be (x y : Int) : 0 ≤ bL .u8 x y ∧ bL .u8 x y < 256 := aDX _
def aJg (p : Pd) : 0 ≤ Sh p ∧ Sh p < 256 := Be _ _
def Pd.Ok.sel_ {p : Pd} (h : p.Ok) (x : Int) : (qN x p).Ok := ⟨N3 _ _, h.down⟩
def Pd.Ok.press {p : Pd} (h : p.Ok) {x : Int} (hx : 0 ≤ x ∧ x < 256) : (rH x p).Ok := ⟨h.sel, hx⟩
structure gH where
 at_ : Int
 down : Int
deriving DecidableEq
def pX (c : gH) : AA := [.int .u64 c.at_, .int .u8 c.down]
def L4 (o : Option gH) (c : gH) : Bool := match o with
 | none => true
 | some b => decide (b.at_ ≤ c.at_)
def Bi (n : Int) (o : Option gH) (c : gH) : Option gH := if c.at_ ≤ n ∧ L4 o c = true then some c else o
def Cc (n : Int) (l : List gH) : Option gH := l.foldl (Bi n) none
def jX (l : List gH) (n : Int) : Int := match Cc n l with
 | none => 0
 | some c => c.down
def sA (c : gH) : Prop := (0 ≤ c.at_ ∧ c.at_ < 18446744073709551616) ∧ 0 ≤ c.down ∧ c.down < 256
def best_step {n : Int} {l : List gH} {i : Nat} {c : gH} (hc : l[i]? = some c) : Cc n (l.take (i + 1)) = Bi n (Cc n (l.take i)) c := by
 unfold Cc
 rw [fk, hc, iq]
 rfl
def aEH {n : Int} {o : Option gH} {c : gH} (h1 : c.at_ ≤ n) (h2 : L4 o c = true) : Bi n o c = some c := ag ⟨h1, h2⟩
def better_no {n : Int} {o : Option gH} {c : gH} (h : ¬ c.at_ ≤ n ∨ L4 o c = false) : Bi n o c = o := ae fun ⟨h1, h2⟩ => by rcases h with h | h; exact h h1; rw [h] at h2; cases h2
def cChg_len (c : gH) : (pX c).length = 2 := rfl
def aQ6 (n : Int) (l : List gH) (c : gH) (h : Cc n l = some c) : c ∈ l := by
 have key : ∀ (l : List gH) (o : Option gH) (S : gH → Prop), (∀ c, o = some c → S c) → (∀ c ∈ l, S c) → ∀ c, l.foldl (Bi n) o = some c → S c := by
  intro l
  induction l with
  | nil => exact fun o S ho _ c h => ho c h
  | cons d l ih =>
   intro o S ho hl c h
   refine ih (Bi n o d) S (fun c hc => ?_) (fun c hc => hl c (.tail _ hc)) c h
   unfold Bi at hc
   split at hc
   ·cases hc; exact hl d (.head _)
   ·exact ho c hc
 exact key l none (· ∈ l) (fun c h => by cases h) (fun c h => h) c h
def aBo {l : List gH} (h : ∀ c ∈ l, sA c) (n : Int) : 0 ≤ jX l n ∧ jX l n < 256 := by
 unfold jX
 split
 ·omega
 ·rename_i c hc; exact (h c (aQ6 n l c hc)).2
structure Bk where
 kind : Int
 banks : Int
 ram : Int
 on : Bool
 mode : Bool
 low : Int
 high : Int
 last : Int
deriving DecidableEq
def jY (m : Bk) : AA := [.int .i64 m.kind, .int .i64 m.banks, .int .i64 m.ram, .bool m.on, .bool m.mode, .int .i64 m.low, .int .i64 m.high, .int .u8 m.last]
structure Bk.Ok (m : Bk) : Prop where
 kind : 0 ≤ m.kind ∧ m.kind < 256
 banks : 0 ≤ m.banks ∧ m.banks < 65536
 ram : 0 ≤ m.ram ∧ m.ram < 1048576
 low : 0 ≤ m.low ∧ m.low < 65536
 high : 0 ≤ m.high ∧ m.high < 65536
 last : 0 ≤ m.last ∧ m.last < 256
def Lp (x : Int) : Bool := decide (x % 16 = 10)
def oneB (a x : Int) (m : Bk) : Bk := if a / 8192 = 0 then { m with on := Lp x } else if a / 8192 = 1 then { m with low := max (x % 32) 1 } else if a / 8192 = 2 then { m with high := x % 4 } else { m with mode := decide (x % 2 = 1) }
def twoB (a x : Int) (m : Bk) : Bk := if 16384 ≤ a then m else if a / 256 % 2 = 0 then { m with on := Lp x } else { m with low := max (x % 16) 1 }
def threeB (a x : Int) (m : Bk) : Bk := if a / 8192 = 0 then { m with on := Lp x } else if a / 8192 = 1 then { m with low := max (x % 128) 1 } else if a / 8192 = 2 then { m with high := x % 16 } else { m with last := x }
def heldB (a x : Int) (m : Bk) : Bool := decide (¬ a / 8192 = 0 ∧ ¬ a / 8192 = 1 ∧ ¬ a / 8192 = 2 ∧ m.last = 0 ∧ x = 1)
def fiveB (a x : Int) (m : Bk) : Bk := if a / 4096 = 0 ∨ a / 4096 = 1 then { m with on := Lp x } else if a / 4096 = 2 then { m with low := m.low / 256 * 256 + x } else if a / 4096 = 3 then { m with low := m.low % 256 + x % 2 * 256 } else if a / 4096 = 4 ∨ a / 4096 = 5 then { m with high := x % 16 } else m
def writeB (a x : Int) (m : Bk) : Bk :=
 if m.kind = 1 then oneB (a % 32768) x m else if m.kind = 2 then twoB (a % 32768) x m else if m.kind = 3 then threeB (a % 32768) x m else if m.kind = 5 then fiveB (a % 32768) x m else m
def latchB (a x : Int) (m : Bk) : Bool := decide (m.kind = 3) && heldB (a % 32768) x m
def numB (a : Int) (m : Bk) : Int :=
 if m.kind = 0 then (if a / 16384 % 2 = 1 then 1 else 0)
 else if m.kind = 1 then (if a / 16384 % 2 = 1 then m.high * 32 + m.low else if m.mode = true then m.high * 32 else 0)
 else if m.kind = 2 ∨ m.kind = 3 ∨ m.kind = 5 then (if a / 16384 % 2 = 1 then m.low else 0) else 0
def bankB (a : Int) (m : Bk) : Int := if m.banks < 1 then 0 else numB a m % m.banks
def Dg (a : Int) (m : Bk) : Int := 16384 * bankB a m + a % 16384
def atB_ (a : Int) (m : Bk) : Option Int :=
 if a < 40960 ∨ 49152 ≤ a ∨ m.on = false ∨ m.ram < 1 then none
 else if m.kind = 0 then some (a % 8192 % m.ram)
 else if m.kind = 1 then some ((if m.mode = true then a % 8192 + 8192 * m.high else a % 8192) % m.ram)
 else if m.kind = 2 then some (a % 8192 % 512 % m.ram)
 else if m.kind = 3 then (if 3 < m.high then none else some ((a % 8192 + 8192 * m.high) % m.ram))
 else if m.kind = 5 then some ((a % 8192 + 8192 * m.high) % m.ram) else none
def clockB (m : Bk) : Option Int := if m.kind ≠ 3 ∨ m.on = false ∨ m.high < 8 ∨ 12 < m.high then none else some (m.high - 8)
def Bk.Ok.write {m : Bk} (h : m.Ok) (a : Int) {x : Int} (hx : 0 ≤ x ∧ x < 256) : (writeB a x m).Ok := by
 have h1 := h.low; have h2 := h.high
 have L : ∀ v, 0 ≤ v ∧ v < 65536 → ({ m with low := v } : Bk).Ok := fun v hv => ⟨h.kind, h.banks, h.ram, hv, h.high, h.last⟩
 have Hh : ∀ v, 0 ≤ v ∧ v < 65536 → ({ m with high := v } : Bk).Ok := fun v hv => ⟨h.kind, h.banks, h.ram, h.low, hv, h.last⟩
 have O : ∀ b, ({ m with on := b } : Bk).Ok := fun b => ⟨h.kind, h.banks, h.ram, h.low, h.high, h.last⟩
 unfold writeB
 split
 ·unfold oneB; split; exact O _; split; exact L _ I; split; exact Hh _ I; exact ⟨h.kind, h.banks, h.ram, h.low, h.high, h.last⟩
 split
 ·unfold twoB; split; exact h; split; exact O _; exact L _ I
 split
 ·unfold threeB; split; exact O _; split; exact L _ I; split; exact Hh _ I; exact ⟨h.kind, h.banks, h.ram, h.low, h.high, hx⟩
 split
 ·unfold fiveB; split; exact O _; split; exact L _ I; split; exact L _ I; split; exact Hh _ I; exact h
 ·exact h
def X0 (a x : Int) (m : Bk) : (writeB a x m).kind = m.kind ∧ (writeB a x m).banks = m.banks ∧ (writeB a x m).ram = m.ram := by
 unfold writeB oneB twoB threeB fiveB
 repeat' split
 all_goals exact ⟨rfl, rfl, rfl⟩
def aJX {m : Bk} (h : m.Ok) (a : Int) : 0 ≤ numB a m ∧ numB a m < 4194304 := by
 have h1 := h.low; have h2 := h.high
 unfold numB; repeat' split
 all_goals omega
def aA2 {m : Bk} (h : m.Ok) (a : Int) : 0 ≤ bankB a m ∧ bankB a m ≤ m.banks ∧ (0 < m.banks → bankB a m < m.banks) := by
 have h1 := h.banks; have h2 := aJX h a
 unfold bankB
 split
 ·omega
 ·have h3 := fx (numB a m) (show m.banks ≠ 0 by omega)
  have h4 := f7 (numB a m) (show 0 < m.banks by omega)
  omega
def D7 {m : Bk} (a : Int) {n : Int} (hn : atB_ a m = some n) : 0 ≤ n ∧ n < m.ram := by
 have key : ∀ x : Int, 0 < m.ram → 0 ≤ x % m.ram ∧ x % m.ram < m.ram := fun x hr => ⟨fx _ I, f7 _ hr⟩
 unfold atB_ at hn
 split at hn
 ·cases hn
 ·rename_i hc
  have hr : 0 < m.ram := by omega
  repeat' split at hn
  all_goals first | cases hn; done | (cases hn; exact key _ hr)
structure Ck where
 s : Int
 m : Int
 h : Int
 day : Int
 sub : Int
 halt : Bool
 carry : Bool
 h0 : Int
 h1 : Int
 h2 : Int
 h3 : Int
 h4 : Int
deriving DecidableEq
def Ck.held (c : Ck) : AB := [c.h0, c.h1, c.h2, c.h3, c.h4]
def nJ (c : Ck) : AA := [.int .u8 c.s, .int .u8 c.m, .int .u8 c.h, .int .i64 c.day, .int .i64 c.sub, .bool c.halt, .bool c.carry, .int .u8 c.h0, .int .u8 c.h1, .int .u8 c.h2, .int .u8 c.h3, .int .u8 c.h4]
structure Ck.Fo (c : Ck) : Prop where
 s : 0 ≤ c.s ∧ c.s < 256
 m : 0 ≤ c.m ∧ c.m < 256
 h : 0 ≤ c.h ∧ c.h < 256
 day : -9223372036854775808 ≤ c.day ∧ c.day ≤ 9223372036854775807
 byH : bE c.held
structure Ck.Ok (c : Ck) : Prop extends Ck.Fo c where
 sub : 0 ≤ c.sub ∧ c.sub < 4294967296
def dayCk (c : Ck) : Ck := if IntKind.i64.wrap (c.day + 1) = 512 then { c with day := 0, carry := true } else { c with day := IntKind.i64.wrap (c.day + 1) }
def secCk (c : Ck) : Ck :=
 if (c.s + 1) % 64 ≠ 60 then { c with s := (c.s + 1) % 64 }
 else if (c.m + 1) % 64 ≠ 60 then { c with s := 0, m := (c.m + 1) % 64 }
 else if (c.h + 1) % 32 ≠ 24 then { c with s := 0, m := 0, h := (c.h + 1) % 32 }
 else dayCk { c with s := 0, m := 0, h := 0 }
def qM (c : Ck) : Nat → Ck
 | 0 => c
 | n + 1 => { secCk (qM c n) with sub := (qM c n).sub - 1048576 }
def tickCk (c : Ck) : Ck := if c.halt = true then c else qM { c with sub := c.sub + 1 } ((c.sub + 1) / 1048576).toNat
def lY (b : Bool) (n : Int) : Int := if b = true then n else 0
def Ch (c : Ck) : Ck := { c with h0 := c.s, h1 := c.m, h2 := c.h, h3 := c.day % 256, h4 := c.day / 256 % 2 + lY c.halt 64 + lY c.carry 128 }
def Ce (n : Int) (c : Ck) : Int := if n < 0 ∨ 5 ≤ n then 0 else c.held.getD n.toNat 0
def writeCk (n x : Int) (c : Ck) : Ck :=
 if n = 0 then { c with s := x % 64, sub := 0 } else if n = 1 then { c with m := x % 64 } else if n = 2 then { c with h := x % 32 }
 else if n = 3 then { c with day := c.day / 256 * 256 + x } else if n = 4 then { c with day := c.day % 256 + x % 2 * 256, halt := decide (x / 64 % 2 = 1), carry := decide (x / 128 = 1) } else c
def Nd (n : Int) : IntKind.i64.wrap n = (n + 9223372036854775808) % 18446744073709551616 - 9223372036854775808 := by
 simp [IntKind.wrap, IntKind.bits, IntKind.signed]; omega
def aQX (x : Int) : -9223372036854775808 ≤ IntKind.i64.wrap x ∧ IntKind.i64.wrap x ≤ 9223372036854775807 := by
 have := Nd x
 omega
def Ck.Fo.day_ {c : Ck} (h : c.Fo) : (dayCk c).Fo := by
 unfold dayCk
 split
 ·exact ⟨h.s, h.m, h.h, fU, h.byH⟩
 ·exact ⟨h.s, h.m, h.h, aQX _, h.byH⟩
def Ck.Fo.sec {c : Ck} (h : c.Fo) : (secCk c).Fo := by
 unfold secCk
 split
 ·exact ⟨fU, h.m, h.h, h.day, h.byH⟩
 split
 ·exact ⟨fU, fU, h.h, h.day, h.byH⟩
 split
 ·exact ⟨fU, fU, fU, h.day, h.byH⟩
 ·exact Ck.Fo.day_ ⟨fU, fU, fU, h.day, h.byH⟩
def B0 (c : Ck) : ∀ n : Nat, (qM c n).sub = c.sub - 1048576 * n
 | 0 => by show c.sub = _; omega
 | n + 1 => by show (qM c n).sub - 1048576 = _; rw [B0 c n]; omega
def Ck.Fo.sub_ {c : Ck} (h : c.Fo) (x : Int) : ({ c with sub := x } : Ck).Fo := ⟨h.s, h.m, h.h, h.day, h.byH⟩
def Ck.Fo.secs {c : Ck} (h : c.Fo) : ∀ n : Nat, (qM c n).Fo
 | 0 => h
 | n + 1 => (Ck.Fo.sec (h.secs n)).sub_ _
def Ck.Ok.tick {c : Ck} (h : c.Ok) : (tickCk c).Ok := by
 have h2 := h.sub
 unfold tickCk
 split
 ·exact h
 ·refine ⟨(h.toFo.sub_ _).secs _, ?_⟩
  rw [B0]
  dsimp only
  omega
def aDv (b : Bool) {n : Int} (h : 0 ≤ n) : 0 ≤ lY b n ∧ lY b n ≤ n := by unfold lY; split <;> omega
def Ck.Ok.hold {c : Ck} (h : c.Ok) : (Ch c).Ok := by
 have h1 := aDv c.halt (n := 64) M; have h2 := aDv c.carry (n := 128) M
 refine ⟨⟨h.s, h.m, h.h, h.day, fun x hx => ?_⟩, h.sub⟩
 have h3 := h.s; have h4 := h.m; have h5 := h.h
 simp only [Ch, Ck.held, eg, ec, or_false] at hx
 rcases hx with rfl | rfl | rfl | rfl | rfl <;> omega
def Ck.Ok.write {c : Ck} (h : c.Ok) (n : Int) {x : Int} (hx : 0 ≤ x ∧ x < 256) : (writeCk n x c).Ok := by
 have h1 := h.day
 unfold writeCk
 split
 ·exact ⟨⟨fU, h.m, h.h, h.day, h.byH⟩, fU⟩
 split
 ·exact ⟨⟨h.s, fU, h.h, h.day, h.byH⟩, h.sub⟩
 split
 ·exact ⟨⟨h.s, h.m, fU, h.day, h.byH⟩, h.sub⟩
 split
 ·exact ⟨⟨h.s, h.m, h.h, fU, h.byH⟩, h.sub⟩
 split
 ·exact ⟨⟨h.s, h.m, h.h, fU, h.byH⟩, h.sub⟩
 ·exact h
def aJl {c : Ck} (h : c.Ok) (n : Int) : 0 ≤ Ce n c ∧ Ce n c < 256 := by
 unfold Ce; split; omega; exact h.byH.get _
def Ck.Dy (c : Ck) : Prop := 0 ≤ c.day ∧ c.day < 512
def Ck.Dy.sec {c : Ck} (h : c.Dy) : (secCk c).Dy := by
 have h1 : IntKind.i64.wrap (c.day + 1) = c.day + 1 := bY (by have := h.1; omega) (by have := h.2; omega)
 have h2 := h.1; have h3 := h.2
 unfold secCk dayCk
 dsimp only
 repeat' split
 all_goals first | exact h | (unfold Ck.Dy; dsimp only; omega)
def Ck.Dy.secs {c : Ck} (h : c.Dy) : ∀ n : Nat, (qM c n).Dy
 | 0 => h
 | n + 1 => (h.secs n).sec
def Ck.Dy.tick {c : Ck} (h : c.Dy) : (tickCk c).Dy := by
 unfold tickCk; split
 ·exact h
 ·exact Ck.Dy.secs (c := { c with sub := c.sub + 1 }) h _
def Ck.Dy.write {c : Ck} (h : c.Dy) (n : Int) {x : Int} (hx : 0 ≤ x ∧ x < 256) : (writeCk n x c).Dy := by
 have h2 := h.1; have h3 := h.2
 unfold writeCk
 repeat' split
 all_goals first | exact h | (unfold Ck.Dy; dsimp only; omega)
structure Vc where
 on : Bool
 len : Int
 lev : Int
 wait : Int
deriving DecidableEq
def dK (v : Vc) : AA := [.bool v.on, .int .i64 v.len, .int .i64 v.lev, .int .i64 v.wait]
def Fz (v : Vc) : (dK v).length = 4 := rfl
structure Vc.Ok (v : Vc) : Prop where
 len : 0 ≤ v.len ∧ v.len < 65536
 lev : 0 ≤ v.lev ∧ v.lev < 65536
 wait : 0 ≤ v.wait ∧ v.wait < 65536
def Bq : Vc := ⟨false, 0, 0, 0⟩
structure Bd where
 regs : AB
 on : Bool
 div : Int
 step : Int
 vs : List Vc
 pitch : Int
 slide : Int
 slides : Bool
deriving DecidableEq
def cBd (b : Bd) : AA := b.regs.map (.int .u8) ++ ([.bool b.on, .int .i64 b.div, .int .i64 b.step] ++ (aN dK b.vs ++ [.int .i64 b.pitch, .int .i64 b.slide, .bool b.slides]))
structure Bd.Wf (b : Bd) : Prop where
 lR : b.regs.length = 48
 bR : bE b.regs
 lV : b.vs.length = 4
 div : 0 ≤ b.div ∧ b.div < 65536
 step : 0 ≤ b.step ∧ b.step < 65536
 oV : ∀ v ∈ b.vs, v.Ok
 pitch : 0 ≤ b.pitch ∧ b.pitch < 65536
 slide : 0 ≤ b.slide ∧ b.slide < 65536
def bdZ : Bd := ⟨List.replicate 48 0, false, 0, 0, List.replicate 4 Bq, 0, 0, false⟩
def Bd.r (b : Bd) (n : Nat) : Int := b.regs.getD n 0
def Bd.v (b : Bd) (n : Nat) : Vc := b.vs.getD n Bq
def Bd.setV (b : Bd) (n : Nat) (x : Vc) : Bd := { b with vs := b.vs.set n x }
def longest (v : Nat) : Int := if v = 2 then 256 else 64
def readyB (v : Nat) (b : Bd) : Bool := if v = 2 then decide (b.r 10 / 128 = 1) else decide (8 ≤ b.r (5 * v + 2))
def everyB (b : Bd) : Int := b.r 0 / 16 % 8
def byB (b : Bd) : Int := b.r 0 % 8
def eA (b : Bd) : Bd := { b with slide := if everyB b = 0 then 8 else everyB b }
def kJ (b : Bd) : Int := if b.r 0 / 8 % 2 = 1 then b.pitch - b.pitch / 2 ^ (byB b).toNat else b.pitch + b.pitch / 2 ^ (byB b).toNat
def uE (b : Bd) : Bool := decide (2047 < kJ b)
def Pe (b : Bd) : Bd := b.setV 0 { b.v 0 with on := false }
def sX (b : Bd) : Bd := if uE b = true then Pe b else b
def lenV (b : Bd) (v : Nat) (x : Vc) : Vc := if b.r (5 * v + 4) / 64 % 2 = 0 ∨ x.len = 0 then x else { x with len := x.len - 1, on := x.on && decide (0 < x.len - 1) }
def levV (b : Bd) (v : Nat) (x : Vc) : Vc :=
 if v = 2 ∨ b.r (5 * v + 2) % 8 = 0 then x
 else if 0 < x.wait - 1 then { x with wait := x.wait - 1 }
 else { x with wait := b.r (5 * v + 2) % 8, lev := if b.r (5 * v + 2) / 8 % 2 = 1 then min (x.lev + 1) 15 else max (x.lev - 1) 0 }
def turnV (f : Bd → Nat → Vc → Vc) (b : Bd) : Nat → Bd
 | 0 => b
 | n + 1 => (turnV f b n).setV n (f (turnV f b n) n ((turnV f b n).v n))
def Re (b : Bd) : Bd := turnV lenV b 4
def Bt (b : Bd) : Bd := turnV levV b 4
def Iw (b : Bd) : Bd := { b with pitch := kJ b, regs := (b.regs.set 3 (kJ b % 256)).set 4 (b.r 4 / 8 * 8 + kJ b / 256 % 8) }
def slideB (b : Bd) : Bd :=
 if b.slides = false then b
 else if 0 < b.slide - 1 then { b with slide := b.slide - 1 }
 else
  let c := eA { b with slide := b.slide - 1 }
  if everyB b = 0 then c else if uE c = true then Pe c else if byB b = 0 then c else sX (Iw c)
def halfB (b : Bd) : Bd := if b.step % 2 = 0 then Re b else b
def beatB (b : Bd) : Bd := if b.step = 2 ∨ b.step = 6 then slideB (halfB b) else if b.step = 7 then Bt (halfB b) else halfB b
def tickB (b : Bd) : Bd :=
 if b.on = false then b else if b.div + 1 < 2048 then { b with div := b.div + 1 }
 else { beatB { b with div := 0 } with step := (b.step + 1) % 8 }
def Br : AB := [0x80, 0x3f, 0, 0xff, 0xbf, 0xff, 0x3f, 0, 0xff, 0xbf, 0x7f, 0xff, 0x9f, 0xff, 0xbf, 0xff, 0xff, 0, 0, 0xbf, 0, 0, 0x70]
def onV (b : Bd) : Nat → Int
 | 0 => 112 + (if b.on = true then 128 else 0)
 | n + 1 => onV b n + (if (b.v n).on = true then 2 ^ n else 0)
def readB (n : Int) (b : Bd) : Int :=
 if n < 0 ∨ 48 ≤ n ∨ (22 < n ∧ n < 32) then 255 else if 32 ≤ n then b.r n.toNat else if n < 22 then bL .u8 (b.r n.toNat) (Br.getD n.toNat 0) else onV b 4
def cH (b : Bd) (v : Nat) : Vc := ⟨readyB v b, if (b.v v).len = 0 then longest v else (b.v v).len, b.r (5 * v + 2) / 16, b.r (5 * v + 2) % 8⟩
def uW (b : Bd) : Bd := { b with slides := decide (everyB b ≠ 0 ∨ byB b ≠ 0) }
def beginB (v : Nat) (b : Bd) : Bd :=
 let c := b.setV v (cH b v)
 if 0 < v then c
 else
  let d := uW (eA { c with pitch := c.r 3 + c.r 4 % 8 * 256 })
  if byB b = 0 then d else sX d
def offB (b : Bd) : Bd := { bdZ with div := b.div, step := b.step, regs := List.replicate 22 0 ++ b.regs.drop 22 }
def onB (b : Bd) : Bd := if b.on = true then b else { b with div := 0, step := 0, on := true }
def putB (n : Nat) (x : Int) (b : Bd) : Bd := { b with regs := b.regs.set n x }
def voiceB (n : Nat) (x : Int) (b : Bd) : Bd :=
 if n % 5 = 1 then b.setV (n / 5) { b.v (n / 5) with len := longest (n / 5) - x % longest (n / 5) }
 else if n % 5 = 4 then (if x / 128 = 1 then beginB (n / 5) b else b)
 else b.setV (n / 5) { b.v (n / 5) with on := (b.v (n / 5)).on && readyB (n / 5) b }
def writeBd (n x : Int) (b : Bd) : Bd :=
 if n < 0 ∨ 48 ≤ n then b
 else if n = 22 then (if x / 128 = 1 then onB b else offB b)
 else if b.on = false ∧ n < 32 then b
 else if 20 ≤ n then putB n.toNat x b else voiceB n.toNat x (putB n.toNat x b)
section
variable {b : Bd}
def Bd.Wf.r_ (h : b.Wf) (n : Nat) : 0 ≤ b.r n ∧ b.r n < 256 := h.bR.get n
def U1 : Bq.Ok := ⟨iR, iR, iR⟩
def Bd.Wf.v_ (h : b.Wf) (n : Nat) : (b.v n).Ok := by
 unfold Bd.v
 by_cases hn : n < b.vs.length
 ·rw [fV, am hn]; exact h.oV _ (fh hn)
 ·rw [fV, ea I]; exact U1
def Bd.Wf.setV (h : b.Wf) (n : Nat) {x : Vc} (hx : x.Ok) : (b.setV n x).Wf := ⟨h.lR, h.bR, U5, h.div, h.step, fun v hv => by
 rcases ey hv with h1 | rfl
 ·exact h.oV v h1
 ·exact hx, h.pitch, h.slide⟩
def Bd.Wf.put (h : b.Wf) (n : Nat) {x : Int} (hx : 0 ≤ x ∧ x < 256) : (putB n x b).Wf := ⟨by show (b.regs.set n x).length = 48; rw [cy]; exact h.lR, fun y hy => by
 rcases ey hy with h1 | rfl
 ·exact h.bR y h1
 ·exact hx, h.lV, h.div, h.step, h.oV, h.pitch, h.slide⟩
def Bd.Wf.slide_ (h : b.Wf) {x : Int} (hx : 0 ≤ x ∧ x < 65536) : ({ b with slide := x } : Bd).Wf := ⟨h.lR, h.bR, h.lV, h.div, h.step, h.oV, h.pitch, hx⟩
def Bd.Wf.pitch_ (h : b.Wf) {x : Int} (hx : 0 ≤ x ∧ x < 65536) : ({ b with pitch := x } : Bd).Wf := ⟨h.lR, h.bR, h.lV, h.div, h.step, h.oV, hx, h.slide⟩
def Bd.Wf.div_ (h : b.Wf) {x : Int} (hx : 0 ≤ x ∧ x < 65536) : ({ b with div := x } : Bd).Wf := ⟨h.lR, h.bR, h.lV, hx, h.step, h.oV, h.pitch, h.slide⟩
def Bd.Wf.step_ (h : b.Wf) {x : Int} (hx : 0 ≤ x ∧ x < 65536) : ({ b with step := x } : Bd).Wf := ⟨h.lR, h.bR, h.lV, h.div, hx, h.oV, h.pitch, h.slide⟩
def Dv (b : Bd) : 0 ≤ everyB b ∧ everyB b < 8 := by unfold everyB; omega
def A2 (b : Bd) : 0 ≤ byB b ∧ byB b < 8 := by unfold byB; omega
def Bd.Wf.waitW (h : b.Wf) : (eA b).Wf := h.slide_ (by have := Dv b; split <;> omega)
def aBD {x : Int} (h : 0 ≤ x) (n : Nat) : 0 ≤ x / 2 ^ n ∧ x / 2 ^ n ≤ x := by
 have h2 : (0 : Int) < 2 ^ n := gp M
 exact ⟨kb h I, j1 _ h⟩
def aEr (h : b.Wf) : 0 ≤ kJ b ∧ kJ b < 131072 := by
 have h1 := h.pitch; have h2 := aBD h1.1 (byB b).toNat
 unfold kJ; split <;> omega
def Bd.Wf.off0W (h : b.Wf) : (Pe b).Wf := h.setV 0 ⟨(h.v_ 0).len, (h.v_ 0).lev, (h.v_ 0).wait⟩
def Bd.Wf.checkW (h : b.Wf) : (sX b).Wf := by unfold sX; split; exact h.off0W; exact h
def aDL (b : Bd) (v : Nat) {x : Vc} (h : x.Ok) : (lenV b v x).Ok := by
 have h1 := h.len
 unfold lenV; split
 ·exact h
 ·exact ⟨fU, h.lev, h.wait⟩
def S7 (b : Bd) (v : Nat) {x : Vc} (h : x.Ok) : (levV b v x).Ok := by
 have h1 := h.lev; have h2 := h.wait
 unfold levV; split
 ·exact h
 split
 ·exact ⟨h.len, h.lev, fU⟩
 ·exact ⟨h.len, by dsimp only; split <;> omega, fU⟩
def Bd.Wf.turn {f : Bd → Nat → Vc → Vc} (hf : ∀ b v x, Vc.Ok x → (f b v x).Ok) (h : b.Wf) : ∀ n, (turnV f b n).Wf
 | 0 => h
 | n + 1 => (h.turn hf n).setV n (hf _ _ _ ((h.turn hf n).v_ n))
def aA5 (h : b.Wf) (hn : uE b = false) : (Iw b).Wf := by
 have h1 := aEr h; have h4 := h.r_ 4
 have h2 : kJ b ≤ 2047 := by unfold uE at hn; have := dw hn; omega
 have h3 : (putB 4 (b.r 4 / 8 * 8 + kJ b / 256 % 8) (putB 3 (kJ b % 256) b)).Wf := (h.put 3 I).put 4 I
 exact h3.pitch_ I
def Bd.Wf.slideW (h : b.Wf) : (slideB b).Wf := by
 have h1 := h.slide
 have hw : (eA { b with slide := b.slide - 1 }).Wf := by
  have := Dv b
  exact ⟨h.lR, h.bR, h.lV, h.div, h.step, h.oV, h.pitch, R3⟩
 unfold slideB
 split
 ·exact h
 split
 ·exact h.slide_ I
 dsimp only
 split
 ·exact hw
 split
 ·exact hw.off0W
 split
 ·exact hw
 ·exact (aA5 hw (by simpa using ‹¬ uE _ = true›)).checkW
def Bd.Wf.half (h : b.Wf) : (halfB b).Wf := by unfold halfB; split; exact h.turn aDL 4; exact h
def Bd.Wf.beat (h : b.Wf) : (beatB b).Wf := by
 unfold beatB; split; exact h.half.slideW; split; exact h.half.turn S7 4; exact h.half
def Bd.Wf.tick (h : b.Wf) : (tickB b).Wf := by
 have h1 := h.div; have h2 := h.step
 unfold tickB
 split
 ·exact h
 split
 ·exact h.div_ I
 ·exact (h.div_ (x := 0) I).beat.step_ I
def M1 (h : b.Wf) (v : Nat) : (cH b v).Ok := by
 have h1 := h.r_ (5 * v + 2)
 refine ⟨?_, ?_, ?_⟩
 ·unfold cH longest; dsimp only; split
  ·split <;> omega
  ·exact (h.v_ v).len
 ·show 0 ≤ b.r (5 * v + 2) / 16 ∧ b.r (5 * v + 2) / 16 < 65536; omega
 ·show 0 ≤ b.r (5 * v + 2) % 8 ∧ b.r (5 * v + 2) % 8 < 65536; omega
def Bd.Wf.slidesW (h : b.Wf) : (uW b).Wf := ⟨h.lR, h.bR, h.lV, h.div, h.step, h.oV, h.pitch, h.slide⟩
def Bd.Wf.beginW (h : b.Wf) (v : Nat) : (beginB v b).Wf := by
 have hc := h.setV v (M1 h v)
 unfold beginB
 dsimp only
 split
 ·exact hc
 ·have h3 := hc.r_ 3
  have hd : (uW (eA { b.setV v (cH b v) with pitch := (b.setV v (cH b v)).r 3 + (b.setV v (cH b v)).r 4 % 8 * 256 })).Wf := (hc.pitch_ I).waitW.slidesW
  split
  ·exact hd
  ·exact hd.checkW
def bdZ_wf : bdZ.Wf := ⟨iR, fun x hx => by rw [(List.mem_replicate.1 hx).2]; decide, iR, iR, iR, fun v hv => by rw [(List.mem_replicate.1 hv).2]; exact U1, iR, iR⟩
def Bd.Wf.off (h : b.Wf) : (offB b).Wf := ⟨by show (List.replicate 22 0 ++ b.regs.drop 22).length = 48; rw [bQ, dN, h.lR, cx], fun x hx => by
 rcases List.mem_append.1 hx with h1 | h1
 ·rw [(List.mem_replicate.1 h1).2]; decide
 ·exact h.bR x (di h1), bdZ_wf.lV, h.div, h.step, bdZ_wf.oV, bdZ_wf.pitch, bdZ_wf.slide⟩
def Bd.Wf.onW (h : b.Wf) : (onB b).Wf := by unfold onB; split; exact h; exact ⟨h.lR, h.bR, h.lV, (show (0 : Int) ≤ 0 ∧ (0 : Int) < 65536 by decide), (show (0 : Int) ≤ 0 ∧ (0 : Int) < 65536 by decide), h.oV, h.pitch, h.slide⟩
def Bd.Wf.voice (h : b.Wf) (n : Nat) (x : Int) : (voiceB n x b).Wf := by
 have hv := h.v_ (n / 5)
 unfold voiceB
 split
 ·refine h.setV _ ⟨?_, hv.lev, hv.wait⟩
  unfold longest; dsimp only; split <;> omega
 split
 ·split
  ·exact h.beginW _
  ·exact h
 ·exact h.setV _ ⟨hv.len, hv.lev, hv.wait⟩
def Bd.Wf.write (h : b.Wf) (n : Int) {x : Int} (hx : 0 ≤ x ∧ x < 256) : (writeBd n x b).Wf := by
 unfold writeBd
 split
 ·exact h
 split
 ·split; exact h.onW; exact h.off
 split
 ·exact h
 split
 ·exact h.put _ hx
 ·exact (h.put _ hx).voice _ _
def P0 (b : Bd) : ∀ n : Nat, 112 ≤ onV b n ∧ onV b n ≤ 239 + 2 ^ n
 | 0 => by unfold onV; split <;> omega
 | n + 1 => by
  have h := P0 b n
  have h2 : (0 : Int) < 2 ^ n := gp M
  have h3 : (2 : Int) ^ (n + 1) = 2 * 2 ^ n := by rw [Int.pow_succ, Int.mul_comm]
  unfold onV; rw [h3]; split <;> omega
def aNO (h : b.Wf) (n : Int) : 0 ≤ readB n b ∧ readB n b < 256 := by
 unfold readB
 split; omega
 split; exact h.r_ _
 split; exact Be _ _
 have := P0 b 4
 omega
end
def eE (x n : Int) : Int := x / 2 ^ n.toNat % 2
def jK (c : Int) : Int := if eE c 2 = 1 then 16 else 8
def nN (l : AB) (n : Int) : Int := if 0 ≤ n ∧ n < l.length ∧ n < 8192 then l.getD n.toNat 0 else 0
def oK (l : AB) (tile x y : Int) : Int :=
 if tile < 0 ∨ 384 ≤ tile then 0 else eE (nN l (16 * tile + 2 * (y % 8))) (7 - x % 8) + 2 * eE (nN l (16 * tile + 2 * (y % 8) + 1)) (7 - x % 8)
def rY (p c : Int) : Int := p / 2 ^ (c % 4 * 2).toNat % 4
def Vv {n b : Int} (hb : 0 < b ∧ b ≤ 65536) : (IntKind.i64.wrap (n.tmod b + b)).tmod b = n % b := by
 have h1 : n.tmod b < b := Int.tmod_lt_of_pos n hb.1
 have h2 : -b < n.tmod b := by
  have := Int.lt_tmod_of_pos n hb.1
  omega
 rw [bY I I, cn I]
 rw [Int.add_emod_right]
 by_cases h : 0 ≤ n
 ·rw [cn h, Int.emod_emod_of_dvd _ (Int.dvd_refl b)]
 ·rw [Int.tmod_def]
  exact Int.sub_mul_emod_self_left n b (n.tdiv b)
def zB (x n : Int) : eE x n = 0 ∨ eE x n = 1 := by unfold eE; omega
def Rf {l : AB} (h : bE l) (n : Int) : 0 ≤ nN l n ∧ nN l n < 256 := by
 unfold nN; split
 ·exact h.get _
 ·omega
def T8 (y : Int) : aQ .i64 y 7 = y % 8 := by
 have h : (BitVec.ofInt 64 y &&& BitVec.ofInt 64 7).toNat = (y % 18446744073709551616).toNat % 8 := by
  rw [ia]
  have h7 : (BitVec.ofInt 64 7).toNat = 2 ^ 3 - 1 := by decide
  rw [h7, fw, f5]
  rfl
 show IntKind.i64.wrap ((BitVec.ofInt 64 y &&& BitVec.ofInt 64 7).toNat : Int) = _
 rw [h, bY I I]
 omega
def aDy (x : Int) : IntKind.i64.wrap (7 - aQ .i64 x 7) = 7 - x % 8 := by
 rw [T8, bY I I]
def aCo (x : Int) : 0 ≤ IntKind.i64.wrap (7 - aQ .i64 x 7) := by rw [aDy]; omega
def Xk {t : Int} (y : Int) (h : 0 ≤ t ∧ t < 384) : IntKind.i64.wrap (IntKind.i64.wrap (16 * t) + IntKind.i64.wrap (2 * aQ .i64 y 7)) = 16 * t + 2 * (y % 8) := by
 rw [T8, bY (n := 16 * t) I I, bY (n := 2 * (y % 8)) I I, bY I I]
def aJb {t : Int} (y : Int) (h : 0 ≤ t ∧ t < 384) : 0 ≤ IntKind.i64.wrap (IntKind.i64.wrap (16 * t) + IntKind.i64.wrap (2 * aQ .i64 y 7)) := by rw [Xk y h]; omega
def X3 {t : Int} (y : Int) (h : 0 ≤ t ∧ t < 384) : IntKind.i64.wrap (IntKind.i64.wrap (IntKind.i64.wrap (16 * t) + IntKind.i64.wrap (2 * aQ .i64 y 7)) + 1) = 16 * t + 2 * (y % 8) + 1 := by
 rw [Xk y h, bY I I]
def aHW {t : Int} (y : Int) (h : 0 ≤ t ∧ t < 384) : 0 ≤ IntKind.i64.wrap (IntKind.i64.wrap (IntKind.i64.wrap (16 * t) + IntKind.i64.wrap (2 * aQ .i64 y 7)) + 1) := by rw [X3 y h]; omega
def aFy {b n : Int} (h1 : 0 ≤ b ∧ b < 256) (h2 : 0 ≤ n ∧ n < 8) : aQ .u8 (shr .u8 b n) 1 = eE b n := by
 have key : ∀ m : Fin 8, ∀ c : Fin 256, aQ .u8 (shr .u8 (c.val : Int) (m.val : Int)) 1 = eE (c.val : Int) (m.val : Int) := by decide +kernel
 have := key ⟨n.toNat, aR⟩ ⟨b.toNat, aR⟩
 simp only at this
 rwa [d6 h1.1, d6 h2.1] at this
def aGU {x y : Int} (hx : x = 0 ∨ x = 1) (hy : y = 0 ∨ y = 1) : bL .u8 x (shl .u8 y 1) = x + 2 * y := by
 rcases hx with rfl | rfl <;> rcases hy with rfl | rfl <;> decide
def aGm {l : AB} (hl : bE l) {t : Int} (x y : Int) (h : 0 ≤ t ∧ t < 384) :
  bL .u8 (aQ .u8 (shr .u8 (nN l (IntKind.i64.wrap (IntKind.i64.wrap (16 * t) + IntKind.i64.wrap (2 * aQ .i64 y 7)))) (IntKind.i64.wrap (7 - aQ .i64 x 7))) 1)
   (shl .u8 (aQ .u8 (shr .u8 (nN l (IntKind.i64.wrap (IntKind.i64.wrap (IntKind.i64.wrap (16 * t) + IntKind.i64.wrap (2 * aQ .i64 y 7)) + 1))) (IntKind.i64.wrap (7 - aQ .i64 x 7))) 1) 1) = oK l t x y := by
 rw [aDy, X3 y h, Xk y h, aFy (Rf hl _) I, aFy (Rf hl _) I, aGU (zB _ _) (zB _ _)]
 rw [oK, ae I]
def aN6 {l : AB} {n : Int} (h : 0 ≤ n ∧ n < l.length ∧ n < 8192) : l.getD n.toNat 0 = nN l n := by rw [nN, ag h]
def aOR {l : AB} {n : Int} (h : ¬ (0 ≤ n ∧ n < l.length ∧ n < 8192)) : 0 = nN l n := by rw [nN, ae h]
def aHa {p c : Int} (hp : 0 ≤ p ∧ p < 256) (hc : 0 ≤ c ∧ c < 256) : aQ .u8 (shr .u8 p (IntKind.u8.wrap (aQ .u8 c 3 * 2))) 3 = rY p c := by
 have h1 : aQ .u8 c 3 = c % 4 := by
  refine eH (p := fun c => aQ .u8 c 3 = c % 4) ?_ hc.1 hc.2
  decide +kernel
 rw [h1, Ja I I]
 have key : ∀ m : Fin 4, ∀ q : Fin 256, aQ .u8 (shr .u8 (q.val : Int) ((m.val : Int) * 2)) 3 = (q.val : Int) / 2 ^ (2 * m.val) % 4 := by decide +kernel
 have := key ⟨(c % 4).toNat, aR⟩ ⟨p.toNat, aR⟩
 simp only at this
 rw [d6 hp.1, d6 I] at this
 rw [this, rY]
 congr 3
 omega
def aBJ {l : AB} {t x y : Int} (h : t < 0 ∨ 384 ≤ t) : 0 = oK l t x y := by rw [oK, ag h]
def P4 {c : Int} (hc : 0 ≤ c ∧ c < 256) {b : Bool} (h : (aQ .u8 c 4 != 0) = b) : (bif b then (16 : Int) else 8) = jK c := by
 subst h
 refine eH (p := fun c => (bif (aQ .u8 c 4 != 0) then (16 : Int) else 8) = jK c) ?_ hc.1 hc.2
 decide +kernel
def Xi (c : Int) : jK c = 8 ∨ jK c = 16 := by unfold jK; split <;> simp
def oB (l : AB) (n : Int) (k : Nat) : Int := l.getD (4 * n.toNat + k) 0
def zW {l : AB} (h : bE l) (n : Int) (k : Nat) : 0 ≤ oB l n k ∧ oB l n k < 256 := h.get _
def qI (l : AB) (c y x0 tile how x line : Int) : Int :=
 if line < y ∨ y + jK c ≤ line ∨ x < x0 ∨ x0 + 8 ≤ x then 0 else
 let row := if eE how 6 = 1 then jK c - 1 - (line - y) else line - y
 let col := if eE how 5 = 1 then 7 - (x - x0) else x - x0
 oK l (if jK c = 16 then tile / 2 * 2 + row / 8 else tile) col row
def aB8 {c : Int} (hc : 0 ≤ c ∧ c < 256) : (aQ .u8 c 64 != 0) = decide (eE c 6 = 1) := by
 refine eH (p := fun c => (aQ .u8 c 64 != 0) = decide (eE c 6 = 1)) ?_ hc.1 hc.2
 decide +kernel
def L0 {c : Int} (hc : 0 ≤ c ∧ c < 256) : (aQ .u8 c 32 != 0) = decide (eE c 5 = 1) := by
 refine eH (p := fun c => (aQ .u8 c 32 != 0) = decide (eE c 5 = 1)) ?_ hc.1 hc.2
 decide +kernel
def aM2 {t r : Int} (ht : 0 ≤ t ∧ t < 256) (hr : 0 ≤ r ∧ r < 16) : bL .i64 (lB .i64 t 1) (shr .i64 r 3) = t / 2 * 2 + r / 8 := by
 have key : ∀ r : Fin 16, ∀ t : Fin 256, bL .i64 (lB .i64 (t.val : Int) 1) (shr .i64 (r.val : Int) 3) = (t.val : Int) / 2 * 2 + (r.val : Int) / 8 := by decide +kernel
 have := key ⟨r.toNat, aR⟩ ⟨t.toNat, aR⟩
 simp only at this
 rwa [d6 ht.1, d6 hr.1] at this
def zU {l : AB} {c y x0 tile how x line : Int} (hy : -16 ≤ y ∧ y ≤ 240) (hx : -8 ≤ x0 ∧ x0 ≤ 248) (ht : 0 ≤ tile ∧ tile < 256) (hh : 0 ≤ how ∧ how < 256)
  (h1 : y ≤ line ∧ line < IntKind.i64.wrap (y + jK c)) (h2 : x0 ≤ x ∧ x < IntKind.i64.wrap (x0 + 8)) {bu bt bh : Bool}
  (hu : (aQ .u8 how 64 != 0) = bu) (htn : (aQ .u8 how 32 != 0) = bt) (hth : decide (jK c > 8) = bh) :
  oK l (bif bh then bL .i64 (lB .i64 tile 1) (shr .i64 (bif bu then IntKind.i64.wrap (IntKind.i64.wrap (jK c - 1) - IntKind.i64.wrap (line - y)) else IntKind.i64.wrap (line - y)) 3) else tile)
   (bif bt then IntKind.i64.wrap (7 - IntKind.i64.wrap (x - x0)) else IntKind.i64.wrap (x - x0))
   (bif bu then IntKind.i64.wrap (IntKind.i64.wrap (jK c - 1) - IntKind.i64.wrap (line - y)) else IntKind.i64.wrap (line - y)) = qI l c y x0 tile how x line := by
 have hg := Xi c
 rw [bY (n := y + jK c) I I] at h1
 rw [bY (n := x0 + 8) I I] at h2
 rw [bY (n := line - y) I I, bY (n := jK c - 1) I I, bY (n := jK c - 1 - (line - y)) I I, bY (n := x - x0) I I,
  bY (n := 7 - (x - x0)) I I]
 rw [aB8 hh] at hu
 rw [L0 hh] at htn
 rw [qI, ae I]
 have hrow : (bif bu then jK c - 1 - (line - y) else line - y) = (if eE how 6 = 1 then jK c - 1 - (line - y) else line - y) := by
  subst hu; by_cases h : eE how 6 = 1 <;> simp [h]
 have hcol : (bif bt then 7 - (x - x0) else x - x0) = (if eE how 5 = 1 then 7 - (x - x0) else x - x0) := by
  subst htn; by_cases h : eE how 5 = 1 <;> simp [h]
 rw [hrow, hcol]
 have hr0 : 0 ≤ (if eE how 6 = 1 then jK c - 1 - (line - y) else line - y) ∧ (if eE how 6 = 1 then jK c - 1 - (line - y) else line - y) < 16 := by split <;> omega
 generalize (if eE how 6 = 1 then jK c - 1 - (line - y) else line - y) = row at *
 rw [aM2 ht hr0]
 subst hth
 rcases hg with hg | hg <;> simp [hg]
def aEd {l : AB} {c y x0 tile how x line : Int} (hy : -16 ≤ y ∧ y ≤ 240) (hx : -8 ≤ x0 ∧ x0 ≤ 248) (h : ¬ ((y ≤ line ∧ line < IntKind.i64.wrap (y + jK c)) ∧ (x0 ≤ x ∧ x < IntKind.i64.wrap (x0 + 8)))) :
  0 = qI l c y x0 tile how x line := by
 have hg := Xi c
 rw [bY (n := y + jK c) I I, bY (n := x0 + 8) I I] at h
 rw [qI, ag I]
def aIw {l : AB} {n : Int} (hn : 0 ≤ n ∧ n < 40) (h : 4 * n < (l.length : Int)) :
  aV [Value.int .u8 0, .int .u8 0, .int .u8 0, .int .u8 0] 0 ((((l.map Z).drop (4 * n).toNat).take (l.length - (4 * n).toNat)).take (min (l.length - (4 * n).toNat) 4)) =
   [.int .u8 (oB l n 0), .int .u8 (oB l n 1), .int .u8 (oB l n 2), .int .u8 (oB l n 3)] := by
 have e : (4 * n).toNat = 4 * n.toNat := by omega
 rw [e]
 generalize hm : n.toNat = m at *
 have hm2 : 4 * m < l.length := by omega
 have hd : ∀ k, (l.drop (4 * m)).getD k 0 = l.getD (4 * m + k) 0 := fun k => by simp [fV, ee]
 unfold oB
 rw [hm, ← hd 0, ← hd 1, ← hd 2, ← hd 3]
 have hlen : (l.drop (4 * m)).length = l.length - 4 * m := by simp
 simp only [← ie, ← fz]
 rw [← hlen, dm (bi _)]
 match hq : l.drop (4 * m), hlen with
 | [], h0 => simp at h0; omega
 | [a], _ => rfl
 | [a, b], _ => rfl
 | [a, b, c], _ => rfl
 | a :: b :: c :: d :: r, _ =>
  have : min (a :: b :: c :: d :: r).length 4 = 4 := by simp
  rw [this]; rfl
def Nk {l : AB} {n : Int} (hn : 0 ≤ n ∧ n < 40) (h : ¬ 4 * n < (l.length : Int)) (k : Nat) : 0 = oB l n k := by
 unfold oB
 rw [fV, ea I]; rfl
def U6 {l : AB} (hl : bE l) (n : Int) : (Value.agg #[.int .i64 n, .int .i64 (IntKind.i64.wrap (IntKind.i64.wrap (oB l n 0) - 16)), .int .i64 (IntKind.i64.wrap (IntKind.i64.wrap (oB l n 1) - 8)), .int .i64 (IntKind.i64.wrap (oB l n 2)), .int .u8 (oB l n 3)]) =
  .agg #[.int .i64 n, .int .i64 (oB l n 0 - 16), .int .i64 (oB l n 1 - 8), .int .i64 (oB l n 2), .int .u8 (oB l n 3)] := by
 have h0 := zW hl n 0
 have h1 := zW hl n 1
 have h2 := zW hl n 2
 rw [bY (n := oB l n 0) I I, bY (n := oB l n 0 - 16) I I, bY (n := oB l n 1) I I, bY (n := oB l n 1 - 8) I I, bY (n := oB l n 2) I I]
def aF5 {l : AB} {n : Int} (hn : 0 ≤ n ∧ n < 40) (h : ¬ 4 * n < (l.length : Int)) :
  [Value.int .u8 0, .int .u8 0, .int .u8 0, .int .u8 0] = [.int .u8 (oB l n 0), .int .u8 (oB l n 1), .int .u8 (oB l n 2), .int .u8 (oB l n 3)] := by
 rw [← Nk hn h 0, ← Nk hn h 1, ← Nk hn h 2, ← Nk hn h 3]
def Bm (oam : AB) (c line : Int) (n : Nat) : Bool := decide (oB oam n 0 - 16 ≤ line) && decide (line < oB oam n 0 - 16 + jK c)
def jP (oam : AB) (c line : Int) (k : Nat) : AB := ((List.range k).filter (Bm oam c line)).map (fun n : Nat => (n : Int))
def qR (oam : AB) (c line : Int) : AB := (jP oam c line 40).take 10
def aIJ (oam : AB) (c line : Int) (k : Nat) : (jP oam c line k).length ≤ k := by
 simp only [jP, eD]
 have := gv (Bm oam c line) (List.range k)
 simpa using this
def aOn {oam : AB} {c line : Int} {k : Nat} (h : Bm oam c line k = true) : jP oam c line (k + 1) = jP oam c line k ++ [(k : Int)] := by
 simp [jP, ej, List.filter_append, h]
def aIM {oam : AB} {c line : Int} {k : Nat} (h : Bm oam c line k = false) : jP oam c line (k + 1) = jP oam c line k := by
 simp [jP, ej, List.filter_append, h]
def aCF {oam : AB} (ho : bE oam) {c line : Int} {n : Nat} {b : Bool} (h : (decide (oB oam n 0 - 16 ≤ line) && decide (line < IntKind.i64.wrap (oB oam n 0 - 16 + jK c))) = b) : Bm oam c line n = b := by
 have h0 := zW ho n 0
 have hg := Xi c
 rw [bY I I] at h
 exact h
def aKe {oam : AB} {c line : Int} {k : Nat} {v : AH} {G : aF} (h : Bm oam c line k = true) (hv : bM 3 1 v ((jP oam c line k).length + 1) ((jP oam c line k).map (.int .i64) ++ [.int .i64 k]) G) :
  bM 3 1 v (jP oam c line (k + 1)).length ((jP oam c line (k + 1)).map (.int .i64)) G := by
 rw [aOn h]; simpa using hv
def aNW {oam : AB} {c line : Int} {k : Nat} {v : AH} {G : aF} (h : Bm oam c line k = false) (hv : bM 3 1 v (jP oam c line k).length ((jP oam c line k).map (.int .i64)) G) :
  bM 3 1 v (jP oam c line (k + 1)).length ((jP oam c line (k + 1)).map (.int .i64)) G := by
 rw [aIM h]; exact hv
def aOv (oam : AB) (c line : Int) : bM 3 1 (.slice none 0 0) (jP oam c line 0).length ((jP oam c line 0).map (.int .i64)) [] := .nil
def Qp (oam : AB) (c line : Int) : (qR oam c line).length = min (jP oam c line 40).length 10 := by rw [qR, fZ, Nat.min_comm]
def aM1 {α β : Type} (f : α → β) (l : List α) (r : List β) (n : Nat) (j : Nat) (v : β) (h : ((l.take n).map f)[j]? = some v) : (l.map f ++ r)[j]? = some v := by
 rw [fz, fe] at h
 split at h
 ·have hj : j < (l.map f).length := by
   rcases dt j (l.map f).length with h1 | h1
   ·exact h1
   ·rw [ea h1] at h; cases h
  rw [dp hj]; exact h
 ·cases h
def aMG (cap : Nat) : cut1 0 0 cap = 0 := by simp [cut1]
def aJI {oam : AB} {c line : Int} (hm : (jP oam c line 40).length = 0) : Aj .i64 (qR oam c line) (.slice none 0 0) [] := by
 have : qR oam c line = [] := dg (by rw [Qp]; omega)
 rw [this]; exact .nil
def aGB {oam : AB} {c line : Int} {n cap b : Nat} {xs sp : AA} (hm : (jP oam c line 40).length = n) (hx : (jP oam c line 40).map (Value.int .i64) = xs) (hle : n ≤ cap) :
  Aj .i64 (qR oam c line) (.slice (some ⟨b, cut1 0 0 cap, none⟩) (min n 10 - 0) (cap - 0)) [(b, J (xs ++ sp) 3)] := by
 rw [aMG]
 refine Aj.of_row (by rw [Qp]; omega) (by rw [Qp]; omega) (fun j v hv => ?_)
 subst hx
 exact aM1 _ _ _ _ j v hv
structure Vw where
 c : Int
 sx : Int
 sy : Int
 wx : Int
 wy : Int
def cV (v : Vw) : AA := [.int .u8 v.c, .int .u8 v.sx, .int .u8 v.sy, .int .u8 v.wx, .int .u8 v.wy]
structure Vw.Ok (v : Vw) : Prop where
 c : 0 ≤ v.c ∧ v.c < 256
 sx : 0 ≤ v.sx ∧ v.sx < 256
 sy : 0 ≤ v.sy ∧ v.sy < 256
 wx : 0 ≤ v.wx ∧ v.wx < 256
 wy : 0 ≤ v.wy ∧ v.wy < 256
def wY (c b : Int) : Int := if eE c 4 = 1 then b else if 127 < b then b else 256 + b
def zQ (l : AB) (c n px py : Int) : Int := oK l (wY c (nN l ((if eE c n = 1 then 7168 else 6144) + 32 * (py / 8) + px / 8))) px py
def Mx (l : AB) (v : Vw) (x y : Int) : Int := zQ l v.c 3 ((x + v.sx) % 256) ((y + v.sy) % 256)
def Sz (l : AB) (v : Vw) (x y : Int) : Int := zQ l v.c 6 (x % 256) (y % 256)
def pD (v : Vw) (line : Int) : Bool := decide (eE v.c 0 = 1) && (decide (eE v.c 5 = 1) && (decide (v.wy ≤ line) && decide (v.wx ≤ 166)))
def pB (l : AB) (v : Vw) (line own : Int) (x : Nat) : Int :=
 if eE v.c 0 = 1 then (if pD v line = true ∧ 0 ≤ (x : Int) + 7 - v.wx then Sz l v ((x : Int) + 7 - v.wx) own else Mx l v x line) else 0
def Aw (l : AB) (v : Vw) (line own : Int) : AB := (List.range 160).map (pB l v line own)
def tLine_len (l : AB) (v : Vw) (line own : Int) : (Aw l v line own).length = 160 := by simp [Aw]
def aPl (l : AB) (v : Vw) (line own : Int) : (Aw l v line own).map Z = nO .u8 (pB l v line own) 160 160 := by simp [Aw, aDw, jy, Function.comp_def]
def aO1 (l : AB) (t x y : Int) : 0 ≤ oK l t x y ∧ oK l t x y < 4 := by
 unfold oK
 have h1 := zB (nN l (16 * t + 2 * (y % 8))) (7 - x % 8)
 have h2 := zB (nN l (16 * t + 2 * (y % 8) + 1)) (7 - x % 8)
 split <;> omega
def aIO (l : AB) (v : Vw) (line own : Int) (x : Nat) : 0 ≤ pB l v line own x ∧ pB l v line own x < 4 := by
 unfold pB Sz Mx zQ
 split
 ·split <;> exact aO1 _ _ _ _
 ·omega
def tLine_byts (l : AB) (v : Vw) (line own : Int) : bE (Aw l v line own) := fun x hx => by
 obtain ⟨k, _, rfl⟩ := List.mem_map.1 hx
 have := aIO l v line own k
 omega
def I4 {c : Int} (hc : 0 ≤ c ∧ c < 256) : (aQ .u8 c 1 == 0) = decide (eE c 0 = 0) :=
 eH (p := fun c => (aQ .u8 c 1 == 0) = decide (eE c 0 = 0)) eU hc.1 hc.2
def aJ3 {c : Int} (hc : 0 ≤ c ∧ c < 256) : (aQ .u8 c 8 != 0) = decide (eE c 3 = 1) :=
 eH (p := fun c => (aQ .u8 c 8 != 0) = decide (eE c 3 = 1)) eU hc.1 hc.2
def S0 {c : Int} (hc : 0 ≤ c ∧ c < 256) : (aQ .u8 c 16 != 0) = decide (eE c 4 = 1) :=
 eH (p := fun c => (aQ .u8 c 16 != 0) = decide (eE c 4 = 1)) eU hc.1 hc.2
def aNk {b : Int} (hb : 0 ≤ b ∧ b < 256) : IntKind.i64.wrap (256 + IntKind.i64.wrap (IntKind.i8.wrap b)) = if 127 < b then b else 256 + b :=
 eH (p := fun b => IntKind.i64.wrap (256 + IntKind.i64.wrap (IntKind.i8.wrap b)) = if 127 < b then b else 256 + b) eU hb.1 hb.2
def aGG {c b : Int} (h : eE c 4 = 1) : wY c b = b := by unfold wY; rw [ag h]
def aQb {c b : Int} (h : ¬ eE c 4 = 1) : wY c b = if 127 < b then b else 256 + b := by unfold wY; rw [ae h]
def aGN {l : AB} {v : Vw} {line own : Int} (x : Nat) (h : eE v.c 0 = 0) : pB l v line own x = 0 := by unfold pB; rw [ae I]
def aJW {l : AB} {v : Vw} {line own : Int} {x : Nat} (h : eE v.c 0 = 1) (hs : pD v line = true) (hx : 0 ≤ (x : Int) + 7 - v.wx) : Sz l v ((x : Int) + 7 - v.wx) own = pB l v line own x := by
 unfold pB; rw [ag h, ag ⟨hs, hx⟩]
def aB9 {l : AB} {v : Vw} {line own : Int} {x : Nat} (h : eE v.c 0 = 1) (hs : ¬ (pD v line = true ∧ 0 ≤ (x : Int) + 7 - v.wx)) : Mx l v x line = pB l v line own x := by
 unfold pB; rw [ag h, ae hs]
def aKo {l : AB} {v : Vw} {line own : Int} (h : eE v.c 0 = 0) : Aw l v line own = List.replicate 160 0 := by
 refine List.eq_replicate_iff.2 ⟨tLine_len _ _ _ _, fun x hx => ?_⟩
 obtain ⟨k, _, rfl⟩ := List.mem_map.1 hx
 exact aGN _ h
def aMA {v : Vw} {line : Int} (h : eE v.c 0 = 0) : pD v line = false := by unfold pD; rw [h]; rfl
def aHY {c b : Int} (hc : 0 ≤ c ∧ c < 256) (hb : 0 ≤ b ∧ b < 256) (h : (aQ .u8 c 16 != 0) = true) : IntKind.i64.wrap b = wY c b := by
 rw [S0 hc] at h
 rw [bY I I, aGG (by simpa using h)]
def aOJ {c b : Int} (hc : 0 ≤ c ∧ c < 256) (hb : 0 ≤ b ∧ b < 256) (h : (aQ .u8 c 16 != 0) = false) : IntKind.i64.wrap (256 + IntKind.i64.wrap (IntKind.i8.wrap b)) = wY c b := by
 rw [S0 hc] at h
 rw [aNk hb, aQb (by simpa using h)]
def aFE {l : AB} {c n px py : Int} (h : eE c n = 1) : zQ l c n px py = oK l (wY c (nN l (7168 + 32 * (py / 8) + px / 8))) px py := by unfold zQ; rw [ag h]
def aJj {l : AB} {c n px py : Int} (h : ¬ eE c n = 1) : zQ l c n px py = oK l (wY c (nN l (6144 + 32 * (py / 8) + px / 8))) px py := by unfold zQ; rw [ae h]
def Lr {x : Int} (h : 0 ≤ x ∧ x < 256) : IntKind.u8.wrap (x.tdiv 8) = x / 8 := by
 rw [jq h.1, Ja I I]
def Rk (x : Int) : 0 ≤ x % 256 ∧ x % 256 < 256 := by omega
def aOx {v : Vw} {line : Int} (hv : v.Ok) (h : (aQ .u8 v.c 32 != 0) = false) : false = pD v line := by
 rw [L0 hv.c] at h
 unfold pD; rw [h]; simp
def aGW {v : Vw} {line : Int} (h : decide (v.wy ≤ line) = false) : false = pD v line := by
 unfold pD; rw [h]; simp
def aLR {v : Vw} {line : Int} (hv : v.Ok) (h0 : (aQ .u8 v.c 1 == 0) = false) (h : (aQ .u8 v.c 32 != 0) = true) (h2 : decide (v.wy ≤ line) = true) : decide (v.wx ≤ 166) = pD v line := by
 rw [L0 hv.c] at h
 rw [I4 hv.c] at h0
 have h1 : eE v.c 0 = 1 := by have := zB v.c 0; simp at h0; omega
 unfold pD; rw [h, h2, h1]; simp
def aI5 {c : Int} (hc : 0 ≤ c ∧ c < 256) (h0 : (aQ .u8 c 1 == 0) = false) : eE c 0 = 1 := by
 rw [I4 hc] at h0
 have := zB c 0
 simp at h0; omega
def W9 {c : Int} (hc : 0 ≤ c ∧ c < 256) (h0 : (aQ .u8 c 1 == 0) = true) : eE c 0 = 0 := by
 rw [I4 hc] at h0; simpa using h0
structure Sp where
 n : Int
 y : Int
 x : Int
 t : Int
 h : Int
def lQ (s : Sp) : AA := [.int .i64 s.n, .int .i64 s.y, .int .i64 s.x, .int .i64 s.t, .int .u8 s.h]
def tC (s : Sp) : (lQ s).length = 5 := rfl
def sp (oam : AB) (n : Int) : Sp := ⟨n, oB oam n 0 - 16, oB oam n 1 - 8, oB oam n 2, oB oam n 3⟩
def cmpI (a b : Int) : Int := if a < b then -1 else if b < a then 1 else 0
def aCN (a b : Int) : decide (cmpI a b < 0) = decide (a < b) := by
 unfold cmpI; split
 ·simp_all
 ·split <;> simp_all
def kH (e : Sp) : List Sp → List Sp → List Sp
 | [], B => e :: B
 | a :: ra, B => if e.x < a.x then kH e ra (a :: B) else (a :: ra).reverse ++ e :: B
def jI (l : List Sp) : List Sp := l.foldl (fun S e => kH e S.reverse []) []
def aQP (e a : Sp) (A B : List Sp) (h : e.x < a.x) : kH e (A ++ [a]).reverse B = kH e A.reverse (a :: B) := by simp [kH, h]
def aQ2 (e a : Sp) (A B : List Sp) (h : ¬ e.x < a.x) : kH e (A ++ [a]).reverse B = (A ++ [a]) ++ e :: B := by simp [kH, h]
def aJB (e : Sp) (ra B : List Sp) : (kH e ra B).length = ra.length + 1 + B.length := by
 induction ra generalizing B with
 | nil => simp [kH]; omega
 | cons a ra ih =>
  simp only [kH]
  split
  ·rw [ih]; simp; omega
  ·simp; omega
def aIu (l : List Sp) (e : Sp) : jI (l ++ [e]) = kH e (jI l).reverse [] := by simp [jI]
def aDl (l : List Sp) : (jI l).length = l.length := by
 suffices h : ∀ (l S : List Sp), (l.foldl (fun S e => kH e S.reverse []) S).length = S.length + l.length by simpa [jI] using h l []
 intro l
 induction l with
 | nil => simp
 | cons a l ih => intro S; rw [jb, ih, aJB]; simp; omega
def aKQ (l : List Sp) : jI (l.take 1) ++ l.drop 1 = l := by
 cases l with
 | nil => rfl
 | cons a l => simp [jI, kH]
def aOB {l : List Sp} {i : Nat} (hi : i < l.length) : jI (l.take (i + 1)) = kH l[i] (jI (l.take i)).reverse [] := by
 rw [fu hi, aIu]
def aPD (e : Sp) (ra B : List Sp) : ∃ A M, ra.reverse = A ++ M ∧ kH e ra B = A ++ e :: (M ++ B) ∧ (∀ b ∈ M, e.x < b.x) ∧ (A = [] ∨ ∃ A' a, A = A' ++ [a] ∧ ¬ e.x < a.x) := by
 induction ra generalizing B with
 | nil => exact ⟨[], [], rfl, rfl, kW, .inl rfl⟩
 | cons a ra ih =>
  by_cases h : e.x < a.x
  ·obtain ⟨A, M, h1, h2, h3, h4⟩ := ih (a :: B)
   refine ⟨A, M ++ [a], by rw [List.reverse_cons, h1, eC], by simp only [kH, ag h, h2]; simp, ?_, h4⟩
   intro b hb
   rcases List.mem_append.1 hb with hb | hb
   ·exact h3 b hb
   ·simp only [ik] at hb; subst hb; exact h
  ·exact ⟨(a :: ra).reverse, [], kW, by simp [kH, h], kW, .inr ⟨ra.reverse, a, kW, h⟩⟩
def aGl {l : List Sp} {i : Nat} (h : l.length ≤ i) : jI (l.take i) ++ l.drop i = jI l := by
 rw [dm h, gq h, aw]
def aBM {e : Sp} {A B R S : List Sp} (h : A = [] ∨ ∃ A' x, A = A' ++ [x] ∧ ¬ e.x < x.x) (hI : kH e A.reverse B = kH e S.reverse []) : A ++ e :: (B ++ R) = kH e S.reverse [] ++ R := by
 rw [← hI]
 rcases h with rfl | ⟨A', x, rfl, hx⟩
 ·simp [kH]
 ·rw [aQ2 e x A' B hx]; simp
def vC (s : Sp) : Prop := (-16 ≤ s.y ∧ s.y ≤ 240) ∧ (-8 ≤ s.x ∧ s.x ≤ 248) ∧ (0 ≤ s.t ∧ s.t < 256) ∧ (0 ≤ s.h ∧ s.h < 256)
def aG1 {oam : AB} (ho : bE oam) (n : Int) : vC (sp oam n) := by
 have h0 := zW ho n 0
 have h1 := zW ho n 1
 have h2 := zW ho n 2
 have h3 := zW ho n 3
 unfold vC sp
 simp only
 omega
def rD (l : AB) (c x line : Int) (s : Sp) : Bool := qI l c s.y s.x s.t s.h x line != 0
def vK (l : AB) (c bk f s2 x line below : Int) : Option Sp → Int
 | none => rY bk below
 | some s => if eE s.h 7 = 1 ∧ below % 4 ≠ 0 then rY bk below else if eE s.h 4 = 1 then rY s2 (qI l c s.y s.x s.t s.h x line) else rY f (qI l c s.y s.x s.t s.h x line)
def aCx {q : Sp → Bool} {l : List Sp} {k : Nat} {s : Sp} (h : (l.take k).find? q = none) (hs : l[k]? = some s) (hq : q s = true) : l.find? q = some s := by
 obtain ⟨hk, he⟩ := List.getElem?_eq_some_iff.1 hs
 rw [Im hk, List.find?_append, h, he]
 simp [hq]
def aQx {q : Sp → Bool} {l : List Sp} {k : Nat} {s : Sp} (h : (l.take k).find? q = none) (hs : l[k]? = some s) (hq : q s = false) : (l.take (k + 1)).find? q = none := by
 obtain ⟨hk, he⟩ := List.getElem?_eq_some_iff.1 hs
 rw [fu hk, List.find?_append, h, he]
 simp [hq]
def aEc {h : Int} (hh : 0 ≤ h ∧ h < 256) : (aQ .u8 h 128 != 0) = decide (eE h 7 = 1) := by
 refine eH (p := fun c => (aQ .u8 c 128 != 0) = decide (eE c 7 = 1)) ?_ hh.1 hh.2
 decide +kernel
def aPe {h : Int} (hh : 0 ≤ h ∧ h < 256) : (aQ .u8 h 16 != 0) = decide (eE h 4 = 1) := by
 refine eH (p := fun c => (aQ .u8 c 16 != 0) = decide (eE c 4 = 1)) ?_ hh.1 hh.2
 decide +kernel
def aBj {h : Int} (hh : 0 ≤ h ∧ h < 256) : (aQ .u8 h 3 != 0) = decide (h % 4 ≠ 0) := by
 refine eH (p := fun c => (aQ .u8 c 3 != 0) = decide (c % 4 ≠ 0)) ?_ hh.1 hh.2
 decide +kernel
def Qg (l : AB) (c y x0 t h X L : Int) : 0 ≤ qI l c y x0 t h X L ∧ qI l c y x0 t h X L < 256 := by
 unfold qI
 split
 ·omega
 ·have h4 : ∀ a b d, 0 ≤ oK l a b d ∧ oK l a b d < 4 := fun a b d => by
   unfold oK
   split
   ·omega
   ·have := zB (nN l (16 * a + 2 * (d % 8))) (7 - b % 8)
    have := zB (nN l (16 * a + 2 * (d % 8) + 1)) (7 - b % 8)
    omega
  have := h4 (if jK c = 16 then t / 2 * 2 + (if eE h 6 = 1 then jK c - 1 - (L - y) else L - y) / 8 else t) (if eE h 5 = 1 then 7 - (X - x0) else X - x0) (if eE h 6 = 1 then jK c - 1 - (L - y) else L - y)
  show 0 ≤ oK _ _ _ _ ∧ oK _ _ _ _ < 256
  omega
def aGZ {l : AB} {c bk f s2 x line below : Int} {L : List Sp} {s : Sp} {k : Nat} (hs : L[k]? = some s) (ho : vC s) (hb : 0 ≤ below ∧ below < 256) (hn : (L.take k).find? (rD l c x line) = none) (h0 : (qI l c s.y s.x s.t s.h x line == 0) = false)
  (h1 : (aQ .u8 s.h 128 != 0) = true) (h2 : (aQ .u8 below 3 != 0) = true) : rY bk below = vK l c bk f s2 x line below (L.find? (rD l c x line)) := by
 rw [aCx hn hs (by simp [rD, bne, h0])]
 rw [aEc ho.2.2.2, al] at h1
 rw [aBj hb, al] at h2
 simp [vK, h1, h2]
def Ua {l : AB} {c bk f s2 x line below : Int} {L : List Sp} {s : Sp} {k : Nat} {b4 : Bool} (hs : L[k]? = some s) (ho : vC s) (hb : 0 ≤ below ∧ below < 256) (hn : (L.take k).find? (rD l c x line) = none) (h0 : (qI l c s.y s.x s.t s.h x line == 0) = false)
  (h1 : (aQ .u8 s.h 128 != 0) = false ∨ (aQ .u8 below 3 != 0) = false) (h4 : (aQ .u8 s.h 16 != 0) = b4) :
  (bif b4 then rY s2 (qI l c s.y s.x s.t s.h x line) else rY f (qI l c s.y s.x s.t s.h x line)) = vK l c bk f s2 x line below (L.find? (rD l c x line)) := by
 rw [aCx hn hs (by simp [rD, bne, h0])]
 rw [aEc ho.2.2.2, ah, aBj hb, ah] at h1
 rw [aPe ho.2.2.2] at h4
 have : ¬ (eE s.h 7 = 1 ∧ below % 4 ≠ 0) := by rcases h1 with h1 | h1 <;> simp_all
 simp only [vK, ae this]
 subst h4
 by_cases h : eE s.h 4 = 1 <;> simp [h]
def aKk {l : AB} {c bk f s2 x line below : Int} {L : List Sp} {k : Nat} (hk : L.length ≤ k) (hn : (L.take k).find? (rD l c x line) = none) : rY bk below = vK l c bk f s2 x line below (L.find? (rD l c x line)) := by
 rw [dm hk] at hn
 rw [hn]; rfl
def aJV {oam : AB} {c line : Int} : ∀ n ∈ qR oam c line, 0 ≤ n ∧ n < 40 := by
 intro n hn
 have := dh hn
 simp only [jP, jd, List.mem_filter, gt] at this
 obtain ⟨m, ⟨h1, _⟩, rfl⟩ := this
 omega
def aAh (oam : AB) (c line : Int) : (qR oam c line).length ≤ 10 := by rw [Qp]; omega
def rM (oam : AB) (c line : Int) : List Sp := if eE c 1 = 1 then (qR oam c line).map (sp oam) else []
def aC4 {h : Int} (hh : 0 ≤ h ∧ h < 256) : (aQ .u8 h 2 != 0) = decide (eE h 1 = 1) := by
 refine eH (p := fun c => (aQ .u8 c 2 != 0) = decide (eE c 1 = 1)) ?_ hh.1 hh.2
 decide +kernel
def aI1 {oam : AB} {c line : Int} (hc : 0 ≤ c ∧ c < 256) (h : (aQ .u8 c 2 != 0) = true) : rM oam c line = (qR oam c line).map (sp oam) := by
 rw [aC4 hc, al] at h; rw [rM, ag h]
def aIg {oam : AB} {c line : Int} (hc : 0 ≤ c ∧ c < 256) (h : (aQ .u8 c 2 != 0) = false) : rM oam c line = [] := by
 rw [aC4 hc, ah] at h; rw [rM, ae h]
def aBS (oam : AB) (c line : Int) : (rM oam c line).length ≤ 10 := by
 unfold rM; split
 ·rw [eD]; exact aAh _ _ _
 ·simp
def aGY {oam : AB} (ho : bE oam) (c line : Int) : ∀ s ∈ jI (rM oam c line), vC s := by
 have key : ∀ l : List Sp, (∀ s ∈ l, vC s) → ∀ s ∈ jI l, vC s := by
  intro l
  suffices h : ∀ (l S : List Sp), (∀ s ∈ S, vC s) → (∀ s ∈ l, vC s) → ∀ s ∈ l.foldl (fun S e => kH e S.reverse []) S, vC s from h l [] aL
  intro l
  induction l with
  | nil => exact fun S hS _ => hS
  | cons a l ih =>
   intro S hS hl
   refine ih _ ?_ (fun s hs => hl s (by simp [hs]))
   obtain ⟨A, M, h1, h2, _, _⟩ := aPD a S.reverse []
   simp only [h2]
   rw [List.reverse_reverse] at h1
   intro s hs
   simp only [aw, ja, eg] at hs
   rcases hs with hs | rfl | hs
   ·exact hS s (by rw [h1]; simp [hs])
   ·exact hl s aL
   ·exact hS s (by rw [h1]; simp [hs])
 refine key _ ?_
 unfold rM; split
 ·intro s hs
  obtain ⟨n, _, rfl⟩ := List.mem_map.1 hs
  exact aG1 ho n
 ·simp
def aJv {oam : AB} {l : AB} {k : Nat} (hk : k < l.length) : aN lQ ((l.take (k + 1)).map (sp oam)) = aN lQ ((l.take k).map (sp oam)) ++ lQ (sp oam (l.getD k 0)) := by
 rw [fu hk, bz, cu, dk, wS, fV, am hk]; rfl
def Au (l oam : AB) (c bk f s2 line : Int) (bl : AB) (i : Nat) : Int := vK l c bk f s2 i line (bl.getD i 0) ((jI (rM oam c line)).find? (rD l c i line))
def Zb (l oam : AB) (c bk f s2 line : Int) (bl : AB) : AA := (List.range 160).map (fun i => Value.int .u8 (Au l oam c bk f s2 line bl i))
def aMY {l : AB} {k : Nat} (h : k < l.length) : l.getD k 0 ∈ l := by
 rw [fV, am h]; exact fh h
structure PU where
 V : AB
 O : AB
 R : AB
 line : Int
 dot : Int
 own : Int
 frames : Int
 sig : Bool
 P : AB
def cU (u : PU) : AA := u.V.map (.int .u8) ++ (u.O.map (.int .u8) ++ (u.R.map (.int .u8) ++ ([.int .i64 u.line, .int .i64 u.dot, .int .i64 u.own, .int .i64 u.frames, .bool u.sig] ++ u.P.map (.int .u8))))
abbrev PU.r (u : PU) (j : Nat) : Int := u.R.getD j 0
structure PU.Wf (u : PU) : Prop where
 lV : u.V.length = 8192
 lO : u.O.length = 160
 lR : u.R.length = 12
 lP : u.P.length = 23040
 bV : bE u.V
 bO : bE u.O
 bR : bE u.R
 bP : bE u.P
 line : 0 ≤ u.line ∧ u.line ≤ 154
 dot : 0 ≤ u.dot ∧ u.dot ≤ 114
 own : 0 ≤ u.own ∧ u.own ≤ 600
 frames : 0 ≤ u.frames ∧ u.frames < 65536
 how : aQ .u8 (u.R.getD 1 0) 120 = u.R.getD 1 0
structure PU.Ok (u : PU) : Prop where
 wf : u.Wf
 line : u.line < 154
 dot : u.dot < 114
 own : u.own ≤ 255 + u.line + (if 63 ≤ u.dot then 1 else 0)
def cU_len {u : PU} (h : u.Wf) : (cU u).length = 31409 := by
 simp [cU, h.lV, h.lO, h.lR, h.lP]
section
variable {u : PU}
def aPu (h : u.Wf) {j : Nat} (hj : j < 8192) : (cU u)[j]? = some (.int .u8 (u.V.getD j 0)) := lM (gJ (by rw [h.lV]; exact hj))
def aGt (h : u.Wf) {j : Nat} (hj : j < 160) : (cU u)[8192 + j]? = some (.int .u8 (u.O.getD j 0)) :=
 iH (n := j) Ea (lM (gJ (by rw [h.lO]; exact hj)))
def sL (h : u.Wf) {j : Nat} (hj : j < 12) : (cU u)[8352 + j]? = some (.int .u8 (u.R.getD j 0)) :=
 iH (n := 160 + j) wP (iH (n := j) Gk (lM (gJ Kh)))
def Hq (h : u.Wf) {j : Nat} {v : AH} (hv : ([.int .i64 u.line, .int .i64 u.dot, .int .i64 u.own, .int .i64 u.frames, .bool u.sig] : AA)[j]? = some v) : (cU u)[8364 + j]? = some v :=
 iH (n := 172 + j) wP (iH (n := 12 + j) Gj (iH (n := j) Co (lM hv)))
def cU_line (h : u.Wf) : (cU u)[8364]? = some (.int .i64 u.line) := Hq h (j := 0) rfl
def cU_dot (h : u.Wf) : (cU u)[8365]? = some (.int .i64 u.dot) := Hq h (j := 1) rfl
def Qx (h : u.Wf) : (cU u)[8366]? = some (.int .i64 u.own) := Hq h (j := 2) rfl
def Yf (h : u.Wf) : (cU u)[8367]? = some (.int .i64 u.frames) := Hq h (j := 3) rfl
def cU_sig (h : u.Wf) : (cU u)[8368]? = some (.bool u.sig) := Hq h (j := 4) rfl
def rowV {w : AI} {b : Nat} (hr : aK w b 0 (cU u)) : aK w b 0 (u.V.map (.int .u8)) := hr.left
def rowO (h : u.Wf) {w : AI} {b : Nat} (hr : aK w b 0 (cU u)) : aK w b 8192 (u.O.map (.int .u8)) :=
 (hr.right (n := 8192) Ea).left
def aOy (h : u.Wf) {w : AI} {b : Nat} (hr : aK w b 0 (cU u)) : aK w b 8352 (u.R.map (.int .u8)) :=
 ((hr.right (n := 8192) Ea).right (n := 8352) Gk).left
def aL8 (h : u.Wf) {w : AI} {b : Nat} (hr : aK w b 0 (cU u)) : aK w b 8369 (u.P.map (.int .u8)) :=
 (((hr.right (n := 8192) Ea).right (n := 8352) Gk).right (n := 8364) Co).right (n := 8369) rfl
def aKF (h : u.Wf) {j : Nat} (hj : j < 8192) (x : Int) : aV (cU u) j [.int .u8 x] = cU { u with V := u.V.set j x } := by
 unfold cU
 rw [mD (by simp [h.lV]; omega), vG .u8 (by rw [h.lV]; exact hj)]
def aD2 (h : u.Wf) {j : Nat} (hj : j < 160) (x : Int) : aV (cU u) (8192 + j) [.int .u8 x] = cU { u with O := u.O.set j x } := by
 unfold cU
 rw [gE (n := j) Ea Ry, mD Ry, vG .u8 (by rw [h.lO]; exact hj)]
def aBA (h : u.Wf) {j : Nat} (hj : j < 12) (x : Int) : aV (cU u) (8352 + j) [.int .u8 x] = cU { u with R := u.R.set j x } := by
 unfold cU
 rw [gE (n := 160 + j) wP Oh, gE (n := j) Gk Gu, mD Gu, vG .u8 Kh]
def Kl (h : u.Wf) {j : Nat} {v : AH} (hj : j < 5) : aV (cU u) (8364 + j) [v] = u.V.map (.int .u8) ++ (u.O.map (.int .u8) ++ (u.R.map (.int .u8) ++ (aV [.int .i64 u.line, .int .i64 u.dot, .int .i64 u.own, .int .i64 u.frames, .bool u.sig] j [v] ++ u.P.map (.int .u8)))) := by
 unfold cU
 rw [gE (n := 172 + j) wP Oh, gE (n := 12 + j) Gj Gu, gE (n := j) Co lA, mD lA]
def Jk (h : u.Wf) (x : Int) : aV (cU u) 8364 [.int .i64 x] = cU { u with line := x } := Kl h (j := 0) M
def Kr (h : u.Wf) (x : Int) : aV (cU u) 8365 [.int .i64 x] = cU { u with dot := x } := Kl h (j := 1) M
def Fl (h : u.Wf) (x : Int) : aV (cU u) 8366 [.int .i64 x] = cU { u with own := x } := Kl h (j := 2) M
def aGy (h : u.Wf) (x : Int) : aV (cU u) 8367 [.int .i64 x] = cU { u with frames := x } := Kl h (j := 3) M
def aIr (h : u.Wf) (x : Bool) : aV (cU u) 8368 [.bool x] = cU { u with sig := x } := Kl h (j := 4) M
def putU_P (h : u.Wf) {j : Nat} {r : AB} (hj : j + r.length ≤ 23040) : aV (cU u) (8369 + j) (r.map (.int .u8)) = cU { u with P := iO u.P j r } := by
 unfold cU
 rw [gE (n := 177 + j) wP (by simp [h.lO, h.lR, h.lP]; omega), gE (n := 17 + j) Gj (by simp [h.lR, h.lP]; omega), gE (n := 5 + j) Ct Rr, gE (n := j) aL Rr, Ee]
end
def jD (u : PU) : Bool := decide (128 ≤ u.r 0)
def modeU (u : PU) : Int := if jD u = true then (if 144 ≤ u.line then 1 else if u.dot < 20 then 2 else if u.dot < 63 then 3 else 0) else 0
def Bc (u : PU) : Bool := jD u && (u.line == u.r 5)
def Jj (m : Int) : Int := if m = 0 then 8 else if m = 1 then 16 else if m = 2 then 32 else 0
def sigU (u : PU) : Bool := jD u && ((aQ .u8 (u.r 1) (Jj (modeU u)) != 0) || ((aQ .u8 (u.r 1) 64 != 0) && Bc u))
def askU (u : PU) : PU := { u with sig := sigU u }
def askV (u : PU) : Int := if sigU u = true ∧ u.sig = false then 2 else 0
def viewU (u : PU) : Vw := ⟨u.r 0, u.r 3, u.r 2, u.r 11, u.r 10⟩
def belowU (u : PU) : AB := Aw u.V (viewU u) u.line u.own
def rowU (u : PU) : AB := (List.range 160).map (Au u.V u.O (u.r 0) (u.r 7) (u.r 8) (u.r 9) u.line (belowU u))
def sC (u : PU) : PU := { u with P := iO u.P (u.line.toNat * 160) (rowU u), own := if pD (viewU u) u.line = true then u.own + 1 else u.own }
def pO (u : PU) : PU := if u.line = 143 then { u with dot := 0, line := 144, frames := (u.frames + 1) % 65536 } else if u.line = 153 then { u with dot := 0, line := 0, own := 0 } else { u with dot := 0, line := u.line + 1 }
def Al (u : PU) : Int := if u.line = 143 then 1 else 0
def oneU (u : PU) : PU := { u with dot := u.dot + 1 }
def stepU (u : PU) : PU := if u.dot = 62 ∧ u.line < 144 then sC (oneU u) else if u.dot = 113 then pO (oneU u) else oneU u
def stepV (u : PU) : Int := if u.dot = 113 ∧ u.line = 143 then 1 else 0
def tickU (u : PU) : PU := if jD u = true then askU (stepU u) else u
def tickV (u : PU) : Int := if jD u = true then stepV u + askV (stepU u) else 0
def jV : PU := ⟨List.replicate 8192 0, List.replicate 160 0, List.replicate 12 0, 0, 0, 0, 0, false, List.replicate 23040 0⟩
def Og (n : Nat) : bE (List.replicate n 0) := fun x hx => by rw [(List.mem_replicate.1 hx).2]; omega
def Rv : jV.Wf := by
 refine ⟨cx, cx, cx, cx, Og _, Og _, Og _, Og _, ?_, ?_, ?_, ?_, ?_⟩ <;> decide +kernel
def aCW : jV.Ok := ⟨Rv, iR, iR, iR⟩
section
variable {u : PU}
def PU.Wf.look (h : u.Wf) (j : Nat) : 0 ≤ u.r j ∧ u.r j < 256 := h.bR.get j
def viewU_ok (h : u.Wf) : (viewU u).Ok := ⟨h.look 0, h.look 3, h.look 2, h.look 11, h.look 10⟩
def aQD (h : u.Wf) : (aQ .u8 (u.r 0) 128 != 0) = jD u := by
 have := eH (p := fun c => (aQ .u8 c 128 != 0) = decide (128 ≤ c)) eU (h.look 0).1 (h.look 0).2
 exact this
def E2 (u : PU) : 0 ≤ modeU u ∧ modeU u < 4 := by
 unfold modeU; repeat' split
 all_goals omega
def rowU_len (u : PU) : (rowU u).length = 160 := by simp [rowU]
def aH8 (u : PU) : ([.int .u8 8, .int .u8 16, .int .u8 32, .int .u8 0] : AA)[0 + (modeU u).toNat]? = some (.int .u8 (Jj (modeU u))) := by
 obtain ⟨h1, h2⟩ := E2 u
 rcases (show modeU u = 0 ∨ modeU u = 1 ∨ modeU u = 2 ∨ modeU u = 3 by omega) with h | h | h | h <;> rw [h] <;> rfl
def Ni (h : u.Wf) {X : Bool} (hX : X = sigU u) : aV (cU u) 8368 [.bool X] = cU (askU u) := by subst hX; exact aIr h _
def PU.Wf.sig_ (h : u.Wf) (x : Bool) : ({ u with sig := x } : PU).Wf := ⟨h.lV, h.lO, h.lR, h.lP, h.bV, h.bO, h.bR, h.bP, h.line, h.dot, h.own, h.frames, h.how⟩
def PU.Wf.ask (h : u.Wf) : (askU u).Wf := h.sig_ _
def PU.Wf.dot_ (h : u.Wf) {x : Int} (hx : 0 ≤ x ∧ x ≤ 114) : ({ u with dot := x } : PU).Wf := ⟨h.lV, h.lO, h.lR, h.lP, h.bV, h.bO, h.bR, h.bP, h.line, hx, h.own, h.frames, h.how⟩
def PU.Wf.line_ (h : u.Wf) {x : Int} (hx : 0 ≤ x ∧ x ≤ 154) : ({ u with line := x } : PU).Wf := ⟨h.lV, h.lO, h.lR, h.lP, h.bV, h.bO, h.bR, h.bP, hx, h.dot, h.own, h.frames, h.how⟩
def PU.Wf.own_ (h : u.Wf) {x : Int} (hx : 0 ≤ x ∧ x ≤ 600) : ({ u with own := x } : PU).Wf := ⟨h.lV, h.lO, h.lR, h.lP, h.bV, h.bO, h.bR, h.bP, h.line, h.dot, hx, h.frames, h.how⟩
def PU.Wf.frames_ (h : u.Wf) {x : Int} (hx : 0 ≤ x ∧ x < 65536) : ({ u with frames := x } : PU).Wf := ⟨h.lV, h.lO, h.lR, h.lP, h.bV, h.bO, h.bR, h.bP, h.line, h.dot, h.own, hx, h.how⟩
def yO {l : AB} (h : bE l) (j : Nat) {x : Int} (hx : 0 ≤ x ∧ x < 256) : bE (l.set j x) := fun y hy => by
 rcases ey hy with hy | rfl
 ·exact h y hy
 ·exact hx
def aHX {l r : AB} (h : bE l) (hr : bE r) (o : Nat) : bE (iO l o r) := fun y hy => by
 unfold iO at hy
 rcases List.mem_append.1 hy with hy | hy
 ·rcases List.mem_append.1 hy with hy | hy
  ·exact h y (dh hy)
  ·exact hr y hy
 ·exact h y (di hy)
def PU.Wf.V_ (h : u.Wf) (j : Nat) {x : Int} (hx : 0 ≤ x ∧ x < 256) : ({ u with V := u.V.set j x } : PU).Wf := ⟨by simpa using h.lV, h.lO, h.lR, h.lP, yO h.bV j hx, h.bO, h.bR, h.bP, h.line, h.dot, h.own, h.frames, h.how⟩
def PU.Wf.O_ (h : u.Wf) (j : Nat) {x : Int} (hx : 0 ≤ x ∧ x < 256) : ({ u with O := u.O.set j x } : PU).Wf := ⟨h.lV, by simpa using h.lO, h.lR, h.lP, h.bV, yO h.bO j hx, h.bR, h.bP, h.line, h.dot, h.own, h.frames, h.how⟩
def PU.Wf.R_ (h : u.Wf) (j : Nat) {x : Int} (hx : 0 ≤ x ∧ x < 256) (hj : j = 1 → aQ .u8 x 120 = x) : ({ u with R := u.R.set j x } : PU).Wf :=
 ⟨h.lV, h.lO, by simpa using h.lR, h.lP, h.bV, h.bO, yO h.bR j hx, h.bP, h.line, h.dot, h.own, h.frames, by
  by_cases h1 : j = 1
  ·subst h1
   have : (u.R.set 1 x).getD 1 0 = x := by rw [fV, iu (by rw [h.lR]; decide)]; rfl
   show aQ .u8 ((u.R.set 1 x).getD 1 0) 120 = (u.R.set 1 x).getD 1 0
   rw [this]; exact hj rfl
  ·have : (u.R.set j x).getD 1 0 = u.R.getD 1 0 := by rw [fV, ge h1, ← fV]
   show aQ .u8 ((u.R.set j x).getD 1 0) 120 = (u.R.set j x).getD 1 0
   rw [this]; exact h.how⟩
def PU.Wf.P_ (h : u.Wf) (j : Nat) {r : AB} (hr : bE r) (hj : j + r.length ≤ 23040) : ({ u with P := iO u.P j r } : PU).Wf :=
 ⟨h.lV, h.lO, h.lR, by show (iO u.P j r).length = 23040; rw [aPG (by rw [h.lP]; exact hj), h.lP], h.bV, h.bO, h.bR, aHX h.bP hr j, h.line, h.dot, h.own, h.frames, h.how⟩
def placeV (b : Nat) (a : Int) : AH :=
 if 32768 ≤ a ∧ a < 40960 then .tuple #[.pointer (some ⟨b, 0 + (a - 32768).toNat, none⟩), .int .i64 3]
 else if 65024 ≤ a ∧ a < 65184 then .tuple #[.pointer (some ⟨b, 8192 + (a - 65024).toNat, none⟩), .int .i64 2] else .tuple #[.pointer none, .int .i64 0]
def numU (a : Int) : Int := if a < 65344 ∨ 65355 < a ∨ a = 65350 then -1 else a - 65344
def Ym {a : Int} (_h : 0 ≤ a ∧ a < 65536) : (∃ j : Nat, j < 8192 ∧ a = 32768 + j) ∨ (∃ j : Nat, j < 160 ∧ a = 65024 + j) ∨ (¬ (32768 ≤ a ∧ a < 40960) ∧ ¬ (65024 ≤ a ∧ a < 65184)) := by
 by_cases h1 : 32768 ≤ a ∧ a < 40960
 ·exact .inl ⟨(a - 32768).toNat, aR, aR⟩
 ·by_cases h2 : 65024 ≤ a ∧ a < 65184
  ·exact .inr (.inl ⟨(a - 65024).toNat, aR, aR⟩)
  ·exact .inr (.inr ⟨h1, h2⟩)
def Uw {b j : Nat} (hj : j < 8192) : placeV b (32768 + j) = .tuple #[.pointer (some ⟨b, 0 + j, none⟩), .int .i64 3] := by
 unfold placeV
 rw [ag I, show ((32768 : Int) + j - 32768).toNat = j by omega]
def M5 {b j : Nat} (hj : j < 160) : placeV b (65024 + j) = .tuple #[.pointer (some ⟨b, 8192 + j, none⟩), .int .i64 2] := by
 unfold placeV
 rw [ae I, ag I, show ((65024 : Int) + j - 65024).toNat = j by omega]
def D4 {b : Nat} {a : Int} (h : ¬ (32768 ≤ a ∧ a < 40960) ∧ ¬ (65024 ≤ a ∧ a < 65184)) : placeV b a = .tuple #[.pointer none, .int .i64 0] := by
 unfold placeV
 rw [ae h.1, ae h.2]
def Oi (a : Int) : numU a = -1 ∨ (0 ≤ numU a ∧ numU a < 12 ∧ numU a ≠ 6) := by unfold numU; split <;> omega
def rowU_vals (u : PU) : Zb u.V u.O (u.r 0) (u.r 7) (u.r 8) (u.r 9) u.line (belowU u) = (rowU u).map (.int .u8) := by simp [Zb, rowU]
def Wi (p c : Int) : 0 ≤ rY p c ∧ rY p c < 4 := by unfold rY; omega
def aAE (l : AB) (c bk f s2 x line below : Int) (o : Option Sp) : 0 ≤ vK l c bk f s2 x line below o ∧ vK l c bk f s2 x line below o < 4 := by
 unfold vK
 split
 ·exact Wi _ _
 ·split
  ·exact Wi _ _
  ·split <;> exact Wi _ _
def rowU_byts (u : PU) : bE (rowU u) := fun x hx => by
 obtain ⟨k, _, rfl⟩ := List.mem_map.1 hx
 have := aAE u.V (u.r 0) (u.r 7) (u.r 8) (u.r 9) k u.line ((belowU u).getD k 0) ((jI (rM u.O (u.r 0) u.line)).find? (rD u.V (u.r 0) k u.line))
 unfold Au; omega
def Nq (h1 : u.dot = 62) (h2 : u.line < 144) : stepU u = sC (oneU u) := by unfold stepU; rw [ag ⟨h1, h2⟩]
def Ii (h1 : u.dot = 113) : stepU u = pO (oneU u) := by unfold stepU; rw [ae I, ag h1]
def Kj (h1 : ¬ (u.dot = 62 ∧ u.line < 144)) (h2 : ¬ u.dot = 113) : stepU u = oneU u := by unfold stepU; rw [ae h1, ae h2]
def PU.Wf.one (h : u.Wf) (hd : u.dot < 114) : (oneU u).Wf := h.dot_ (by have := h.dot; omega)
def PU.Wf.paint (h : u.Wf) (hl : u.line < 144) (ho : u.own < 600) : (sC u).Wf := by
 have h1 := h.P_ (u.line.toNat * 160) (rowU_byts u) (by rw [rowU_len]; have := h.line; omega)
 unfold sC
 by_cases hs : pD (viewU u) u.line = true
 ·rw [ag hs]; exact h1.own_ (by have := h.own; omega)
 ·rw [ae hs]; exact h1
def aDP (h : u.line = 143) : pO u = { u with dot := 0, line := 144, frames := (u.frames + 1) % 65536 } := by unfold pO; rw [ag h]
def aEM (h : u.line = 153) : pO u = { u with dot := 0, line := 0, own := 0 } := by unfold pO; rw [ae I, ag h]
def aAy (h1 : ¬ u.line = 143) (h2 : ¬ u.line = 153) : pO u = { u with dot := 0, line := u.line + 1 } := by unfold pO; rw [ae h1, ae h2]
def PU.Wf.next (h : u.Wf) (hl : u.line < 154) : (pO u).Wf := by
 have hb := h.line
 by_cases h1 : u.line = 143
 ·rw [aDP h1]; exact ((h.dot_ (x := 0) M).line_ (x := 144) M).frames_ I
 ·by_cases h2 : u.line = 153
  ·rw [aEM h2]; exact ((h.dot_ (x := 0) M).line_ (x := 0) M).own_ M
  ·rw [aAy h1 h2]; exact (h.dot_ (x := 0) M).line_ I
def PU.Ok.own599 (h : u.Ok) : u.own < 600 := by
 have := h.own; have := h.line; split at * <;> omega
def PU.Ok.step (h : u.Ok) : (stepU u).Wf := by
 have hd := h.dot
 by_cases h1 : u.dot = 62 ∧ u.line < 144
 ·rw [Nq h1.1 h1.2]; exact (h.wf.one hd).paint h1.2 h.own599
 ·by_cases h2 : u.dot = 113
  ·rw [Ii h2]; exact (h.wf.one hd).next h.line
  ·rw [Kj h1 h2]; exact h.wf.one hd
def PU.Ok.tick (h : u.Ok) : (tickU u).Ok := by
 unfold tickU
 by_cases hl : jD u = true
 ·rw [ag hl]
  have hs := h.step
  have hd := h.dot
  have hn := h.line
  have ho := h.own
  have hz := h.wf.dot
  have hy := h.wf.line
  refine ⟨hs.ask, ?_, ?_, ?_⟩
  all_goals
   show _
   unfold askU
   by_cases h1 : u.dot = 62 ∧ u.line < 144
   ·rw [Nq h1.1 h1.2]
    simp only [sC, oneU]
    split at ho <;> (try split) <;> (try split) <;> omega
   ·by_cases h2 : u.dot = 113
    ·rw [Ii h2]
     unfold pO oneU
     dsimp only
     by_cases h3 : u.line = 143
     ·rw [ag h3]; dsimp only; split at ho <;> (try split) <;> omega
     ·rw [ae h3]
      by_cases h4 : u.line = 153
      ·rw [ag h4]; dsimp only; (try split) <;> omega
      ·rw [ae h4]; dsimp only; split at ho <;> (try split) <;> omega
    ·rw [Kj h1 h2]
     unfold oneU
     dsimp only
     split at ho <;> (try split) <;> omega
 ·rw [ae hl]; exact h
def bor_ask {x y : Int} (hx : x = 0 ∨ x = 1) (hy : y = 0 ∨ y = 2) : bL .u8 x y = x + y := by
 rcases hx with rfl | rfl <;> rcases hy with rfl | rfl <;> decide
def askV_two (u : PU) : askV u = 0 ∨ askV u = 2 := by unfold askV; split <;> simp
def stepV_one (u : PU) : stepV u = 0 ∨ stepV u = 1 := by unfold stepV; split <;> simp
def aIZ (h1 : jD u = false) : false = sigU u := by unfold sigU; rw [h1]; rfl
def aKX (h1 : jD u = true) (h2 : (aQ .u8 (u.r 1) (Jj (modeU u)) != 0) = true) : true = sigU u := by unfold sigU; rw [h1, h2]; rfl
def aJc (h1 : jD u = true) (h2 : (aQ .u8 (u.r 1) (Jj (modeU u)) != 0) = false) (h3 : (aQ .u8 (u.r 1) 64 != 0) = false) : false = sigU u := by unfold sigU; rw [h1, h2, h3]; rfl
def aP5 (h1 : jD u = true) (h2 : (aQ .u8 (u.r 1) (Jj (modeU u)) != 0) = false) (h3 : (aQ .u8 (u.r 1) 64 != 0) = true) : Bc u = sigU u := by unfold sigU; rw [h1, h2, h3]; rfl
def aDi (h : pD (viewU u) u.line = true) : sC u = { u with P := iO u.P (u.line.toNat * 160) (rowU u), own := u.own + 1 } := by unfold sC; rw [ag h]
def aDR (h : pD (viewU u) u.line = false) : sC u = { u with P := iO u.P (u.line.toNat * 160) (rowU u) } := by unfold sC; rw [ae (by rw [h]; decide)]
end
def pY {w : AI} {b j : Nat} {l : AA} {v : AH} (h : aK w b 0 l) (hv : l[j]? = some v) : w.cell? ⟨b, j, none⟩ = some v := by
 simpa using h j v hv
def Dl (u : PU) : Int := bL .u8 (bL .u8 128 (u.r 1)) (modeU u)
def qX (u : PU) (a : Int) : Int :=
 if 32768 ≤ a ∧ a < 40960 then u.V.getD (a - 32768).toNat 0 else if 65024 ≤ a ∧ a < 65184 then u.O.getD (a - 65024).toNat 0
 else if numU a = -1 then 255 else if numU a = 4 then u.line % 256 else if numU a = 1 then (if Bc u = true then bL .u8 (Dl u) 4 else Dl u) else u.r (numU a).toNat
def vS (u : PU) (a : Int) : Int :=
 if (32768 ≤ a ∧ a < 40960 ∧ 3 ≤ modeU u) ∨ (65024 ≤ a ∧ a < 65184 ∧ 2 ≤ modeU u) then 255 else qX u a
def jU (u : PU) (n : Int) (x : Int) : PU := if n = 1 then { u with R := u.R.set 1 (aQ .u8 x 120) } else if n = 4 then u else { u with R := u.R.set n.toNat x }
def xD (was : Bool) (u : PU) : PU := if was = true ∧ jD u = false then { u with line := 0, dot := 0, own := 0 } else u
def putU (u : PU) (n : Int) (x : Int) : PU := xD (jD u) (jU u n x)
def kZ (u : PU) (a x : Int) : PU :=
 if 32768 ≤ a ∧ a < 40960 then (if modeU u < 3 then { u with V := u.V.set (a - 32768).toNat x } else u)
 else if 65024 ≤ a ∧ a < 65184 then (if modeU u < 2 then { u with O := u.O.set (a - 65024).toNat x } else u)
 else if numU a = -1 then u else askU (putU u (numU a) x)
def qO (u : PU) (a x : Int) : Int :=
 if 32768 ≤ a ∧ a < 40960 then 0 else if 65024 ≤ a ∧ a < 65184 then 0 else if numU a = -1 then 0 else askV (putU u (numU a) x)
def vF (u : PU) (n x : Int) : PU := if 0 ≤ n ∧ n < 160 then { u with O := u.O.set n.toNat x } else u
section
variable {u : PU} {x : Int}
def Yp (hx : 0 ≤ x ∧ x < 256) : 0 ≤ aQ .u8 x 120 ∧ aQ .u8 x 120 < 256 ∧ aQ .u8 (aQ .u8 x 120) 120 = aQ .u8 x 120 :=
 eH (p := fun x => 0 ≤ aQ .u8 x 120 ∧ aQ .u8 x 120 < 256 ∧ aQ .u8 (aQ .u8 x 120) 120 = aQ .u8 x 120) eU hx.1 hx.2
def PU.Wf.set1 (h : u.Wf) (hx : 0 ≤ x ∧ x < 256) : ({ u with R := u.R.set 1 (aQ .u8 x 120) } : PU).Wf := h.R_ 1 ⟨(Yp hx).1, (Yp hx).2.1⟩ fun _ => (Yp hx).2.2
def PU.Wf.setn (h : u.Wf) (hx : 0 ≤ x ∧ x < 256) {n : Int} (_hn : 0 ≤ n) (h1 : ¬ n = 1) : ({ u with R := u.R.set n.toNat x } : PU).Wf := h.R_ n.toNat hx fun h2 => absurd h2 I
def PU.Wf.zero (h : u.Wf) : ({ u with line := 0, dot := 0, own := 0 } : PU).Wf := ((h.line_ (x := 0) M).dot_ (x := 0) M).own_ (x := 0) M
def set_1 {n : Int} (h : n = 1) : jU u n x = { u with R := u.R.set 1 (aQ .u8 x 120) } := by unfold jU; rw [ag h]
def Ji {n : Int} (h : n = 4) : jU u n x = u := by unfold jU; rw [ae I, ag h]
def set_n {n : Int} (h1 : ¬ n = 1) (h4 : ¬ n = 4) : jU u n x = { u with R := u.R.set n.toNat x } := by unfold jU; rw [ae h1, ae h4]
def PU.Wf.set (h : u.Wf) (hx : 0 ≤ x ∧ x < 256) {n : Int} (hn : 0 ≤ n) : (jU u n x).Wf := by
 by_cases h1 : n = 1
 ·rw [set_1 h1]; exact h.set1 hx
 ·by_cases h4 : n = 4
  ·rw [Ji h4]; exact h
  ·rw [set_n h1 h4]; exact h.setn hx hn h1
def Mt {was : Bool} (h1 : was = true) (h2 : jD u = false) : xD was u = { u with line := 0, dot := 0, own := 0 } := by unfold xD; rw [ag ⟨h1, h2⟩]
def off_no {was : Bool} (h : was = false ∨ jD u = true) : xD was u = u := by
 unfold xD; rw [ae]; rintro ⟨h1, h2⟩; rcases h with h | h <;> simp_all
def PU.Wf.off (h : u.Wf) (was : Bool) : (xD was u).Wf := by
 unfold xD; split
 ·exact h.zero
 ·exact h
def aE6 (b : Int) {j : Nat} (hj : j < 8192) : kZ u (32768 + j) b = if modeU u < 3 then { u with V := u.V.set j b } else u := by
 unfold kZ
 rw [ag I, show ((32768 : Int) + j - 32768).toNat = j by omega]
def aB2 (b : Int) {j : Nat} (hj : j < 160) : kZ u (65024 + j) b = if modeU u < 2 then { u with O := u.O.set j b } else u := by
 unfold kZ
 rw [ae I, ag I, show ((65024 : Int) + j - 65024).toNat = j by omega]
def aQT {a : Int} (b : Int) (h : ¬ (32768 ≤ a ∧ a < 40960) ∧ ¬ (65024 ≤ a ∧ a < 65184)) (hn : numU a = -1) : kZ u a b = u := by
 unfold kZ; rw [ae h.1, ae h.2, ag hn]
def write_R {a : Int} (b : Int) (h : ¬ (32768 ≤ a ∧ a < 40960) ∧ ¬ (65024 ≤ a ∧ a < 65184)) (hn : ¬ numU a = -1) : kZ u a b = askU (putU u (numU a) b) := by
 unfold kZ; rw [ae h.1, ae h.2, ae hn]
def aBd (b : Int) {j : Nat} (hj : j < 8192) : qO u (32768 + j) b = 0 := by unfold qO; rw [ag I]
def aEl (b : Int) {j : Nat} (hj : j < 160) : qO u (65024 + j) b = 0 := by unfold qO; rw [ae I, ag I]
def aKt {a : Int} (b : Int) (h : ¬ (32768 ≤ a ∧ a < 40960) ∧ ¬ (65024 ≤ a ∧ a < 65184)) (hn : numU a = -1) : qO u a b = 0 := by
 unfold qO; rw [ae h.1, ae h.2, ag hn]
def wv_R {a : Int} (b : Int) (h : ¬ (32768 ≤ a ∧ a < 40960) ∧ ¬ (65024 ≤ a ∧ a < 65184)) (hn : ¬ numU a = -1) : qO u a b = askV (putU u (numU a) b) := by
 unfold qO; rw [ae h.1, ae h.2, ae hn]
def aOD {j : Nat} (hj : j < 8192) : qX u (32768 + j) = u.V.getD j 0 := by
 unfold qX; rw [ag I, show ((32768 : Int) + j - 32768).toNat = j by omega]
def aIh {j : Nat} (hj : j < 160) : qX u (65024 + j) = u.O.getD j 0 := by
 unfold qX; rw [ae I, ag I, show ((65024 : Int) + j - 65024).toNat = j by omega]
def Jb {a : Int} (h : ¬ (32768 ≤ a ∧ a < 40960) ∧ ¬ (65024 ≤ a ∧ a < 65184)) :
  qX u a = if numU a = -1 then 255 else if numU a = 4 then u.line % 256 else if numU a = 1 then (if Bc u = true then bL .u8 (Dl u) 4 else Dl u) else u.r (numU a).toNat := by
 unfold qX; rw [ae h.1, ae h.2]
def O1 {j : Nat} (hj : j < 8192) : vS u (32768 + j) = if 3 ≤ modeU u then 255 else qX u (32768 + j) := by
 unfold vS; by_cases h : 3 ≤ modeU u
 ·rw [ag I, ag h]
 ·rw [ae I, ae h]
def aEb {j : Nat} (hj : j < 160) : vS u (65024 + j) = if 2 ≤ modeU u then 255 else qX u (65024 + j) := by
 unfold vS; by_cases h : 2 ≤ modeU u
 ·rw [ag I, ag h]
 ·rw [ae I, ae h]
def aGe {a : Int} (h : ¬ (32768 ≤ a ∧ a < 40960) ∧ ¬ (65024 ≤ a ∧ a < 65184)) : vS u a = qX u a := by
 unfold vS; rw [ae I]
def PU.Ok.ask (h : u.Ok) : (askU u).Ok := ⟨h.wf.ask, h.line, h.dot, h.own⟩
def PU.Ok.write (h : u.Ok) {a : Int} (hx : 0 ≤ x ∧ x < 256) : (kZ u a x).Ok := by
 have hl := h.line; have hd := h.dot; have ho := h.own
 unfold kZ
 split
 ·split
  ·exact ⟨h.wf.V_ _ hx, hl, hd, ho⟩
  ·exact h
 ·split
  ·split
   ·exact ⟨h.wf.O_ _ hx, hl, hd, ho⟩
   ·exact h
  ·split
   ·exact h
   ·rename_i hn
    have hr := Oi a
    refine PU.Ok.ask ?_
    have hs : (jU u (numU a) x).Ok := by
     refine ⟨h.wf.set hx I, ?_, ?_, ?_⟩ <;> (unfold jU; split; · assumption) <;> split <;> assumption
    unfold putU xD
    split
    ·exact ⟨hs.wf.zero, by show (0 : Int) < 154; decide, by show (0 : Int) < 114; decide, by show (0 : Int) ≤ 255 + 0 + (if (63 : Int) ≤ 0 then 1 else 0); decide⟩
    ·exact hs
def PU.Ok.sprite (h : u.Ok) (n : Int) (hx : 0 ≤ x ∧ x < 256) : (vF u n x).Ok := by
 have hl := h.line; have hd := h.dot; have ho := h.own
 unfold vF
 split
 ·exact ⟨h.wf.O_ _ hx, hl, hd, ho⟩
 ·exact h
end
structure cJ where
 kind : Int
 x : Int
 y : Int
 size : Int
 n : Int
 deriving DecidableEq
def cO (o : cJ) : AA := [.int .i64 o.kind, .int .i64 o.x, .int .i64 o.y, .int .i64 o.size, .int .u16 o.n]
def cO_len (o : cJ) : (cO o).length = 5 := rfl
def Mz {l : AA} {o : cJ} (h : l = cO o) : Value.agg l.toArray = .agg (cO o).toArray := by rw [h]
def o0 : cJ := ⟨0, 0, 0, 0, 0⟩
def cW (s : List UInt8) : AA := [.string (bs s)]
def aHq : List UInt8 := [48, 49, 50, 51, 52, 53, 54, 55, 56, 57, 97, 98, 99, 100, 101, 102]
def dig (m : Nat) : UInt8 := aHq.getD m 0
def aA3 (n : Nat) (many : Nat) : List UInt8 := (List.range many).reverse.map fun i => dig (n / 16 ^ i % 16)
def h2 (o : cJ) : List UInt8 := aA3 o.n.toNat 2
def h4 (o : cJ) : List UInt8 := aA3 o.n.toNat 4
structure Pq where
 at_ : Nat
 by_ : Nat
 many : Nat
 kind : Int
 size : Int
 x : Option (List Int)
def PL : List Pq := [⟨0, 1, 1, 1, 1, none⟩, ⟨8, 1, 1, 40, 3, none⟩, ⟨16, 1, 1, 2, 2, none⟩, ⟨24, 1, 1, 23, 2, some [4]⟩, ⟨32, 8, 4, 23, 2, some [0, 1, 2, 3]⟩, ⟨1, 16, 4, 9, 3, some [0, 1, 2, 3]⟩, ⟨9, 16, 4, 16, 1, some [0, 1, 2, 3]⟩, ⟨2, 16, 4, 33, 1, some [0, 1, 2, 3]⟩, ⟨10, 16, 4, 32, 1, some [0, 1, 2, 3]⟩, ⟨3, 16, 4, 14, 1, some [0, 1, 2, 3]⟩, ⟨11, 16, 4, 15, 1, some [0, 1, 2, 3]⟩, ⟨4, 8, 8, 12, 1, some [0, 1, 2, 3, 4, 5, 6, 7]⟩, ⟨5, 8, 8, 13, 1, some [0, 1, 2, 3, 4, 5, 6, 7]⟩, ⟨6, 8, 8, 8, 2, some [0, 1, 2, 3, 4, 5, 6, 7]⟩, ⟨7, 8, 4, 18, 1, some [0, 1, 2, 3]⟩, ⟨39, 1, 1, 19, 1, none⟩, ⟨47, 1, 1, 20, 1, none⟩, ⟨55, 1, 1, 21, 1, none⟩, ⟨63, 1, 1, 22, 1, none⟩, ⟨192, 8, 4, 26, 1, some [0, 1, 2, 3]⟩, ⟨224, 1, 1, 35, 2, none⟩, ⟨232, 1, 1, 41, 2, none⟩, ⟨240, 1, 1, 34, 2, none⟩, ⟨248, 1, 1, 42, 2, none⟩, ⟨193, 16, 4, 31, 1, some [0, 1, 2, 4]⟩, ⟨197, 16, 4, 30, 1, some [0, 1, 2, 4]⟩, ⟨201, 1, 1, 26, 1, some [4]⟩, ⟨217, 1, 1, 27, 1, none⟩, ⟨233, 1, 1, 29, 1, none⟩, ⟨249, 1, 1, 43, 1, none⟩, ⟨194, 8, 4, 24, 3, some [0, 1, 2, 3]⟩, ⟨226, 1, 1, 37, 1, none⟩, ⟨234, 1, 1, 39, 3, none⟩, ⟨242, 1, 1, 36, 1, none⟩, ⟨250, 1, 1, 38, 3, none⟩, ⟨195, 1, 1, 24, 3, some [4]⟩, ⟨243, 1, 1, 5, 1, none⟩, ⟨251, 1, 1, 6, 1, none⟩, ⟨196, 8, 4, 25, 3, some [0, 1, 2, 3]⟩, ⟨205, 1, 1, 25, 3, some [4]⟩, ⟨198, 8, 8, 11, 2, some [0, 1, 2, 3, 4, 5, 6, 7]⟩]
def sR : List cJ := [⟨1, 0, 0, 1, 0⟩, ⟨9, 0, 0, 3, 0⟩, ⟨33, 0, 0, 1, 0⟩, ⟨14, 0, 0, 1, 0⟩, ⟨12, 0, 0, 1, 0⟩, ⟨13, 0, 0, 1, 0⟩, ⟨8, 0, 0, 2, 0⟩, ⟨18, 0, 0, 1, 0⟩, ⟨40, 0, 0, 3, 0⟩, ⟨16, 0, 0, 1, 0⟩, ⟨32, 0, 0, 1, 0⟩, ⟨15, 0, 0, 1, 0⟩, ⟨12, 1, 0, 1, 0⟩, ⟨13, 1, 0, 1, 0⟩, ⟨8, 1, 0, 2, 0⟩, ⟨18, 1, 0, 1, 0⟩, ⟨2, 0, 0, 2, 0⟩, ⟨9, 1, 0, 3, 0⟩, ⟨33, 1, 0, 1, 0⟩, ⟨14, 1, 0, 1, 0⟩, ⟨12, 2, 0, 1, 0⟩, ⟨13, 2, 0, 1, 0⟩, ⟨8, 2, 0, 2, 0⟩, ⟨18, 2, 0, 1, 0⟩, ⟨23, 4, 0, 2, 0⟩, ⟨16, 1, 0, 1, 0⟩, ⟨32, 1, 0, 1, 0⟩, ⟨15, 1, 0, 1, 0⟩, ⟨12, 3, 0, 1, 0⟩, ⟨13, 3, 0, 1, 0⟩, ⟨8, 3, 0, 2, 0⟩, ⟨18, 3, 0, 1, 0⟩, ⟨23, 0, 0, 2, 0⟩, ⟨9, 2, 0, 3, 0⟩, ⟨33, 2, 0, 1, 0⟩, ⟨14, 2, 0, 1, 0⟩, ⟨12, 4, 0, 1, 0⟩, ⟨13, 4, 0, 1, 0⟩, ⟨8, 4, 0, 2, 0⟩, ⟨19, 0, 0, 1, 0⟩, ⟨23, 1, 0, 2, 0⟩, ⟨16, 2, 0, 1, 0⟩, ⟨32, 2, 0, 1, 0⟩, ⟨15, 2, 0, 1, 0⟩, ⟨12, 5, 0, 1, 0⟩, ⟨13, 5, 0, 1, 0⟩, ⟨8, 5, 0, 2, 0⟩, ⟨20, 0, 0, 1, 0⟩, ⟨23, 2, 0, 2, 0⟩, ⟨9, 3, 0, 3, 0⟩, ⟨33, 3, 0, 1, 0⟩, ⟨14, 3, 0, 1, 0⟩, ⟨12, 6, 0, 1, 0⟩, ⟨13, 6, 0, 1, 0⟩, ⟨8, 6, 0, 2, 0⟩, ⟨21, 0, 0, 1, 0⟩, ⟨23, 3, 0, 2, 0⟩, ⟨16, 3, 0, 1, 0⟩, ⟨32, 3, 0, 1, 0⟩, ⟨15, 3, 0, 1, 0⟩, ⟨12, 7, 0, 1, 0⟩, ⟨13, 7, 0, 1, 0⟩, ⟨8, 7, 0, 2, 0⟩, ⟨22, 0, 0, 1, 0⟩, ⟨7, 0, 0, 1, 0⟩, ⟨7, 0, 1, 1, 0⟩, ⟨7, 0, 2, 1, 0⟩, ⟨7, 0, 3, 1, 0⟩, ⟨7, 0, 4, 1, 0⟩, ⟨7, 0, 5, 1, 0⟩, ⟨7, 0, 6, 1, 0⟩, ⟨7, 0, 7, 1, 0⟩, ⟨7, 1, 0, 1, 0⟩, ⟨7, 1, 1, 1, 0⟩, ⟨7, 1, 2, 1, 0⟩, ⟨7, 1, 3, 1, 0⟩, ⟨7, 1, 4, 1, 0⟩, ⟨7, 1, 5, 1, 0⟩, ⟨7, 1, 6, 1, 0⟩, ⟨7, 1, 7, 1, 0⟩, ⟨7, 2, 0, 1, 0⟩, ⟨7, 2, 1, 1, 0⟩, ⟨7, 2, 2, 1, 0⟩, ⟨7, 2, 3, 1, 0⟩, ⟨7, 2, 4, 1, 0⟩, ⟨7, 2, 5, 1, 0⟩, ⟨7, 2, 6, 1, 0⟩, ⟨7, 2, 7, 1, 0⟩, ⟨7, 3, 0, 1, 0⟩, ⟨7, 3, 1, 1, 0⟩, ⟨7, 3, 2, 1, 0⟩, ⟨7, 3, 3, 1, 0⟩, ⟨7, 3, 4, 1, 0⟩, ⟨7, 3, 5, 1, 0⟩, ⟨7, 3, 6, 1, 0⟩, ⟨7, 3, 7, 1, 0⟩, ⟨7, 4, 0, 1, 0⟩, ⟨7, 4, 1, 1, 0⟩, ⟨7, 4, 2, 1, 0⟩, ⟨7, 4, 3, 1, 0⟩, ⟨7, 4, 4, 1, 0⟩, ⟨7, 4, 5, 1, 0⟩, ⟨7, 4, 6, 1, 0⟩, ⟨7, 4, 7, 1, 0⟩, ⟨7, 5, 0, 1, 0⟩, ⟨7, 5, 1, 1, 0⟩, ⟨7, 5, 2, 1, 0⟩, ⟨7, 5, 3, 1, 0⟩, ⟨7, 5, 4, 1, 0⟩, ⟨7, 5, 5, 1, 0⟩, ⟨7, 5, 6, 1, 0⟩, ⟨7, 5, 7, 1, 0⟩, ⟨7, 6, 0, 1, 0⟩, ⟨7, 6, 1, 1, 0⟩, ⟨7, 6, 2, 1, 0⟩, ⟨7, 6, 3, 1, 0⟩, ⟨7, 6, 4, 1, 0⟩, ⟨7, 6, 5, 1, 0⟩, ⟨3, 0, 0, 1, 0⟩, ⟨7, 6, 7, 1, 0⟩, ⟨7, 7, 0, 1, 0⟩, ⟨7, 7, 1, 1, 0⟩, ⟨7, 7, 2, 1, 0⟩, ⟨7, 7, 3, 1, 0⟩, ⟨7, 7, 4, 1, 0⟩, ⟨7, 7, 5, 1, 0⟩, ⟨7, 7, 6, 1, 0⟩, ⟨7, 7, 7, 1, 0⟩, ⟨10, 0, 0, 1, 0⟩, ⟨10, 0, 1, 1, 0⟩, ⟨10, 0, 2, 1, 0⟩, ⟨10, 0, 3, 1, 0⟩, ⟨10, 0, 4, 1, 0⟩, ⟨10, 0, 5, 1, 0⟩, ⟨10, 0, 6, 1, 0⟩, ⟨10, 0, 7, 1, 0⟩, ⟨10, 1, 0, 1, 0⟩, ⟨10, 1, 1, 1, 0⟩, ⟨10, 1, 2, 1, 0⟩, ⟨10, 1, 3, 1, 0⟩, ⟨10, 1, 4, 1, 0⟩, ⟨10, 1, 5, 1, 0⟩, ⟨10, 1, 6, 1, 0⟩, ⟨10, 1, 7, 1, 0⟩, ⟨10, 2, 0, 1, 0⟩, ⟨10, 2, 1, 1, 0⟩, ⟨10, 2, 2, 1, 0⟩, ⟨10, 2, 3, 1, 0⟩, ⟨10, 2, 4, 1, 0⟩, ⟨10, 2, 5, 1, 0⟩, ⟨10, 2, 6, 1, 0⟩, ⟨10, 2, 7, 1, 0⟩, ⟨10, 3, 0, 1, 0⟩, ⟨10, 3, 1, 1, 0⟩, ⟨10, 3, 2, 1, 0⟩, ⟨10, 3, 3, 1, 0⟩, ⟨10, 3, 4, 1, 0⟩, ⟨10, 3, 5, 1, 0⟩, ⟨10, 3, 6, 1, 0⟩, ⟨10, 3, 7, 1, 0⟩, ⟨10, 4, 0, 1, 0⟩, ⟨10, 4, 1, 1, 0⟩, ⟨10, 4, 2, 1, 0⟩, ⟨10, 4, 3, 1, 0⟩, ⟨10, 4, 4, 1, 0⟩, ⟨10, 4, 5, 1, 0⟩, ⟨10, 4, 6, 1, 0⟩, ⟨10, 4, 7, 1, 0⟩, ⟨10, 5, 0, 1, 0⟩, ⟨10, 5, 1, 1, 0⟩, ⟨10, 5, 2, 1, 0⟩, ⟨10, 5, 3, 1, 0⟩, ⟨10, 5, 4, 1, 0⟩, ⟨10, 5, 5, 1, 0⟩, ⟨10, 5, 6, 1, 0⟩, ⟨10, 5, 7, 1, 0⟩, ⟨10, 6, 0, 1, 0⟩, ⟨10, 6, 1, 1, 0⟩, ⟨10, 6, 2, 1, 0⟩, ⟨10, 6, 3, 1, 0⟩, ⟨10, 6, 4, 1, 0⟩, ⟨10, 6, 5, 1, 0⟩, ⟨10, 6, 6, 1, 0⟩, ⟨10, 6, 7, 1, 0⟩, ⟨10, 7, 0, 1, 0⟩, ⟨10, 7, 1, 1, 0⟩, ⟨10, 7, 2, 1, 0⟩, ⟨10, 7, 3, 1, 0⟩, ⟨10, 7, 4, 1, 0⟩, ⟨10, 7, 5, 1, 0⟩, ⟨10, 7, 6, 1, 0⟩, ⟨10, 7, 7, 1, 0⟩, ⟨26, 0, 0, 1, 0⟩, ⟨31, 0, 0, 1, 0⟩, ⟨24, 0, 0, 3, 0⟩, ⟨24, 4, 0, 3, 0⟩, ⟨25, 0, 0, 3, 0⟩, ⟨30, 0, 0, 1, 0⟩, ⟨11, 0, 0, 2, 0⟩, ⟨28, 0, 0, 1, 0⟩, ⟨26, 1, 0, 1, 0⟩, ⟨26, 4, 0, 1, 0⟩, ⟨24, 1, 0, 3, 0⟩, ⟨4, 0, 0, 1, 0⟩, ⟨25, 1, 0, 3, 0⟩, ⟨25, 4, 0, 3, 0⟩, ⟨11, 1, 0, 2, 0⟩, ⟨28, 0, 0, 1, 8⟩, ⟨26, 2, 0, 1, 0⟩, ⟨31, 1, 0, 1, 0⟩, ⟨24, 2, 0, 3, 0⟩, ⟨4, 0, 0, 1, 0⟩, ⟨25, 2, 0, 3, 0⟩, ⟨30, 1, 0, 1, 0⟩, ⟨11, 2, 0, 2, 0⟩, ⟨28, 0, 0, 1, 16⟩, ⟨26, 3, 0, 1, 0⟩, ⟨27, 0, 0, 1, 0⟩, ⟨24, 3, 0, 3, 0⟩, ⟨4, 0, 0, 1, 0⟩, ⟨25, 3, 0, 3, 0⟩, ⟨4, 0, 0, 1, 0⟩, ⟨11, 3, 0, 2, 0⟩, ⟨28, 0, 0, 1, 24⟩, ⟨35, 0, 0, 2, 0⟩, ⟨31, 2, 0, 1, 0⟩, ⟨37, 0, 0, 1, 0⟩, ⟨4, 0, 0, 1, 0⟩, ⟨4, 0, 0, 1, 0⟩, ⟨30, 2, 0, 1, 0⟩, ⟨11, 4, 0, 2, 0⟩, ⟨28, 0, 0, 1, 32⟩, ⟨41, 0, 0, 2, 0⟩, ⟨29, 0, 0, 1, 0⟩, ⟨39, 0, 0, 3, 0⟩, ⟨4, 0, 0, 1, 0⟩, ⟨4, 0, 0, 1, 0⟩, ⟨4, 0, 0, 1, 0⟩, ⟨11, 5, 0, 2, 0⟩, ⟨28, 0, 0, 1, 40⟩, ⟨34, 0, 0, 2, 0⟩, ⟨31, 4, 0, 1, 0⟩, ⟨36, 0, 0, 1, 0⟩, ⟨5, 0, 0, 1, 0⟩, ⟨4, 0, 0, 1, 0⟩, ⟨30, 4, 0, 1, 0⟩, ⟨11, 6, 0, 2, 0⟩, ⟨28, 0, 0, 1, 48⟩, ⟨42, 0, 0, 2, 0⟩, ⟨43, 0, 0, 1, 0⟩, ⟨38, 0, 0, 3, 0⟩, ⟨6, 0, 0, 1, 0⟩, ⟨4, 0, 0, 1, 0⟩, ⟨4, 0, 0, 1, 0⟩, ⟨11, 7, 0, 2, 0⟩, ⟨28, 0, 0, 1, 56⟩]
def p1 (i : Nat) : cJ := if i / 64 = 1 then ⟨7, (i / 8 % 8 : Nat), (i % 8 : Nat), 1, 0⟩ else if i / 64 = 2 then ⟨10, (i / 8 % 8 : Nat), (i % 8 : Nat), 1, 0⟩ else ⟨4, 0, 0, 1, 0⟩
def b1 (i : Nat) : cJ := ⟨[17, 44, 45, 46].getD (i / 64) 0, (i / 8 % 8 : Nat), (i % 8 : Nat), 2, 0⟩
def Aa (q : Pq) (i : Nat) : cJ := ⟨q.kind, match q.x with
 | some x => x.getD i 0
 | none => 0, 0, q.size, 0⟩
def wO (q : Pq) (P : List cJ) (n : Nat) : List cJ := (List.range n).foldl (fun P i => P.set (q.at_ + q.by_ * i) (Aa q i)) P
def putQ (P : List cJ) (q : Pq) : List cJ := wO q P q.many
def Az (P : List cJ) (n : Nat) : List cJ := (List.range n).foldl (fun P y => P.set (199 + 8 * y) ⟨28, 0, 0, 1, (8 * y : Nat)⟩) P
def Td (q : Pq) : Bool := (List.range q.many).all (fun i => Nat.blt (q.at_ + q.by_ * i) 256) && Nat.ble q.many 8 && Nat.ble q.by_ 16 && (match q.x with
 | some x => Nat.beq x.length q.many
 | none => true)
def aNs : PL.all Td = true := by decide
def aLt : PL.length = 41 := rfl
def uJ : List cJ := ((List.range 256).map p1).set 118 ⟨3, 0, 0, 1, 0⟩
def tabB : List cJ := (List.range 256).map b1
def aNU : Az (PL.foldl putQ uJ) 8 = sR := by kernel_rfl
def aDh (q : Pq) (P : List cJ) : wO q P 0 = P := rfl
def aMC (P : List cJ) : Az P 0 = P := rfl
def A8 (q : Pq) (P : List cJ) (n : Nat) : wO q P (n + 1) = (wO q P n).set (q.at_ + q.by_ * n) (Aa q n) := by simp [wO, ej]
def aBU (P : List cJ) (n : Nat) : Az P (n + 1) = (Az P n).set (199 + 8 * n) ⟨28, 0, 0, 1, (8 * n : Nat)⟩ := by simp [Az, ej]
def Yq (q : Pq) (P : List cJ) (n : Nat) : (wO q P n).length = P.length := by
 induction n with
 | zero => rfl
 | succ n ih => rw [A8, cy, ih]
def aKm (P : List cJ) (n : Nat) : (Az P n).length = P.length := by
 induction n with
 | zero => rfl
 | succ n ih => rw [aBU, cy, ih]
def aBK (l : List Pq) (P : List cJ) : (l.foldl putQ P).length = P.length := by
 induction l generalizing P with
 | nil => rfl
 | cons q l ih => rw [jb, ih, putQ, Yq]
def aEs : uJ.length = 256 := by simp [uJ]
def foldQ_take {k : Nat} {q : Pq} (h : PL[k]? = some q) (P : List cJ) : (PL.take (k + 1)).foldl putQ P = putQ ((PL.take k).foldl putQ P) q := by
 rw [Ep h, iq]; rfl
def aF1 {q : Pq} (h : Td q = true) : (∀ i, i < q.many → q.at_ + q.by_ * i < 256) ∧ q.many ≤ 8 ∧ q.by_ ≤ 16 ∧ ∀ x, q.x = some x → x.length = q.many := by
 simp only [Td, cq, List.all_eq_true, gt] at h
 obtain ⟨⟨⟨h1, h2⟩, h3⟩, h4⟩ := h
 refine ⟨fun i hi => ef (Nat.lt_succ_self _) (ai (h1 i hi)), ai h2, ai h3, fun x hx => ?_⟩
 rw [hx] at h4
 exact da h4
def aLO {k : Nat} {q : Pq} (h : PL[k]? = some q) : Td q = true := List.all_eq_true.1 aNs q (cw h)
def aPx {α : Type} {P : List α} {j : Nat} (h : j < P.length) (x : α) : (P.set j x).take (j + 1) = P.take j ++ [x] := by
 rw [d5, ag h, jz, fZ, fv I, gn, List.take_take]
 rw [Nat.min_eq_right I]; rfl
structure xT (f : Nat → cJ) (P : List cJ) (j : Nat) : Prop where
 len : P.length = 256
 part : P.take j = (List.range j).map f
def xT.start (f : Nat → cJ) {P : List cJ} (h : P.length = 256) : xT f P 0 := ⟨h, kW⟩
def xT.step {f : Nat → cJ} {P : List cJ} {j : Nat} (h : xT f P j) (hj : j < 256) : xT f (P.set j (f j)) (j + 1) :=
 ⟨by rw [cy, h.len], by rw [aPx (by rw [h.len]; exact hj), h.part, ej, bz]; rfl⟩
def xT.all {f : Nat → cJ} {P : List cJ} (h : xT f P 256) : P = (List.range 256).map f := by
 have := h.part
 rwa [dm (by rw [h.len]; exact bi _)] at this
def jW (u1 u2 u3 : AH) (P B : List cJ) : AA := u1 :: u2 :: u3 :: (aN cO P ++ aN cO B)
section
variable {u1 u2 u3 : AH} {P B : List cJ}
def tabL_len (hP : P.length = 256) (hB : B.length = 256) : (jW u1 u2 u3 P B).length = 2563 := by
 simp [jW, gM cO_len, hP, hB]
def Hn {α : Type} {c : α → AA} {s : Nat} (hc : ∀ x, (c x).length = s) (X : AA) (l : List α) (Z : AA) {i : Nat} (hi : i < l.length) (y : α) : aV (X ++ (aN c l ++ Z)) (X.length + i * s) (c y) = X ++ (aN c (l.set i y) ++ Z) := by
 have h1 : l = l.take i ++ l[i] :: l.drop (i + 1) := Im hi
 have h2 : l.set i y = l.take i ++ y :: l.drop (i + 1) := by rw [d5, ag hi]
 have hl : (X ++ aN c (l.take i)).length = X.length + i * s := by rw [bQ, gM hc, fZ, fv I]
 have h := zX (X ++ aN c (l.take i)) (c l[i]) (aN c (l.drop (i + 1)) ++ Z) (c y) (by rw [hc, hc])
 rw [hl] at h
 have e1 : X ++ (aN c l ++ Z) = X ++ aN c (l.take i) ++ (c l[i] ++ (aN c (l.drop (i + 1)) ++ Z)) := by
  conv => lhs; rw [h1]
  rw [vJ, xS]; simp only [eC]
 have e2 : X ++ (aN c (l.set i y) ++ Z) = X ++ aN c (l.take i) ++ (c y ++ (aN c (l.drop (i + 1)) ++ Z)) := by
  rw [h2, vJ, xS]; simp only [eC]
 rw [e1, e2]; exact h
def Cg (hP : P.length = 256) {i : Nat} (hi : i < 256) (x : cJ) : aV (jW u1 u2 u3 P B) (3 + i * 5) (cO x) = jW u1 u2 u3 (P.set i x) B :=
 Hn cO_len [u1, u2, u3] P (aN cO B) I x
def aKy (hP : P.length = 256) (hB : B.length = 256) {i : Nat} (hi : i < 256) (x : cJ) : aV (jW u1 u2 u3 P B) (1283 + i * 5) (cO x) = jW u1 u2 u3 P (B.set i x) := by
 have h := Hn cO_len (u1 :: u2 :: u3 :: aN cO P) B [] (i := i) I x
 have hl : (u1 :: u2 :: u3 :: aN cO P).length = 1283 := by simp [gM cO_len, hP]
 rw [hl] at h
 simpa [jW] using h
def aKv {w : AI} {b : Nat} (h : aK w b 0 (jW u1 u2 u3 P B)) {i : Nat} {x : cJ} (hi : P[i]? = some x) : aK w b (3 + i * 5) (cO x) := by
 have h1 : aK w b 3 (aN cO P ++ aN cO B) := fun j v hv => by
  have := h (3 + j) v (by rw [il]; exact hv)
  rwa [cg] at this
 exact aK.nth' cO_len h1.left hi
def aMV {w : AI} {b : Nat} (hP : P.length = 256) (h : aK w b 0 (jW u1 u2 u3 P B)) {i : Nat} {x : cJ} (hi : B[i]? = some x) : aK w b (1283 + i * 5) (cO x) := by
 have h1 : aK w b 1283 (aN cO B) := fun j v hv => by
  have := h (1283 + j) v (by
   have e : jW u1 u2 u3 P B = (u1 :: u2 :: u3 :: aN cO P) ++ aN cO B := by simp [jW]
   have hl : (u1 :: u2 :: u3 :: aN cO P).length = 1283 := by simp [gM cO_len, hP]
   rw [e, er I, hl, gn]; exact hv)
  rwa [cg] at this
 exact aK.nth' cO_len h1 hi
end
def Aq (o : cJ) (b w : Int) : cJ := { o with n := if o.size = 2 then b else if o.size = 3 then w else o.n }
def Ap (b : Int) : cJ := if b / 64 = 0 then ⟨17, b / 8 % 8, b % 8, 2, 0⟩ else ⟨43 + b / 64, b / 8 % 8, b % 8, 2, 0⟩
def zY (a b c : Int) : cJ := if a = 203 then Ap b else Aq (sR.getD a.toNat o0) b (b + 256 * c)
def aOO : (List.range 256).all (fun b => decide (b1 b = Ap (b : Nat))) = true := by kernel_rfl
def aFS {b : Nat} (h : b < 256) : b1 b = Ap (b : Nat) := by
 have := List.all_eq_true.1 aOO b (List.mem_range.2 h)
 simpa using this
def aHx {b : Nat} (h : b < 256) : tabB[b]? = some (Ap (b : Nat)) := by
 rw [← aFS h, tabB, df, ig h]; rfl
def Y9 : sR.length = 256 := by kernel_rfl
def aMp {a : Nat} (h : a < 256) : sR[a]? = some (sR.getD a o0) := by
 rw [fV, am (by rw [Y9]; exact h)]; rfl
def J3 {a b c : Int} (h : a = 203) : zY a b c = Ap b := by unfold zY; rw [ag h]
def Jd {a b c : Int} {m : Nat} {o : cJ} (ha : a = (m : Int)) (h : ¬ a = 203) (ho : sR[m]? = some o) : zY a b c = Aq o b (b + 256 * c) := by
 unfold zY
 rw [ae h, ha, db, fV, ho]; rfl
def Vt {o : cJ} (h : o.size = 2) (b w : Int) : Aq o b w = ⟨o.kind, o.x, o.y, o.size, b⟩ := by unfold Aq; rw [ag h]
def Ys {o : cJ} (h : o.size = 3) (b w : Int) : Aq o b w = ⟨o.kind, o.x, o.y, o.size, w⟩ := by unfold Aq; rw [ae I, ag h]
def Ze {o : cJ} (h : ¬ o.size = 2) (h3 : ¬ o.size = 3) (b w : Int) : Aq o b w = o := by unfold Aq; rw [ae h, ae h3]
def M9 {b c : Int} (hb : 0 ≤ b ∧ b < 256) (hc : 0 ≤ c ∧ c < 256) : bL .u16 b (shl .u16 c 8) = b + 256 * c := by
 obtain ⟨m, rfl⟩ : ∃ m : Nat, b = m := ⟨b.toNat, aR⟩
 obtain ⟨n, rfl⟩ : ∃ n : Nat, c = n := ⟨c.toNat, aR⟩
 have h1 : shl .u16 (n : Int) 8 = ((n * 256 : Nat) : Int) := by
  unfold shl
  have : (min (8 : Int).toNat IntKind.u16.bits) = 8 := by decide
  rw [this, pR]; omega
 rw [h1]
 unfold bL
 have h2 : (BitVec.ofInt IntKind.u16.bits (m : Int) ||| BitVec.ofInt IntKind.u16.bits ((n * 256 : Nat) : Int)).toNat = n * 256 + m := by
  have e1 : BitVec.ofInt IntKind.u16.bits (m : Int) = BitVec.ofNat 16 m := by simp [IntKind.bits]
  have e2 : BitVec.ofInt IntKind.u16.bits ((n * 256 : Nat) : Int) = BitVec.ofNat 16 (n * 256) := by simp only [IntKind.bits]; exact BitVec.ofInt_natCast ..
  rw [e1, e2]
  have e3 : (BitVec.ofNat 16 m ||| BitVec.ofNat 16 (n * 256)).toNat = (m % 65536) ||| (n * 256 % 65536) := by simp
  have e4 : m % 65536 = m := by omega
  have e5 : n * 256 % 65536 = n * 256 := by omega
  have e6 : n * 256 ||| m = n * 256 + m := by
   have := Nat.shiftLeft_add_eq_or_of_lt (i := 8) (b := m) I n
   rw [j3] at this
   simpa using this.symm
  exact e3.trans (by rw [e4, e5, kg, e6])
 rw [h2, pR]; omega
def aHD (o : cJ) : Bool := decide (1 ≤ o.kind ∧ o.kind ≤ 46 ∧ 1 ≤ o.size ∧ o.size ≤ 3 ∧ 0 ≤ o.n ∧ o.n < 256)
def aQH : sR.all aHD = true := by kernel_rfl
def aK3 {m : Nat} {o : cJ} (h : sR[m]? = some o) : 1 ≤ o.kind ∧ o.kind ≤ 46 ∧ 1 ≤ o.size ∧ o.size ≤ 3 ∧ 0 ≤ o.n ∧ o.n < 256 :=
 dr (List.all_eq_true.1 aQH o (cw h))
def Wa {a : Int} (h0 : 0 ≤ a) (h : a < 256) : ∃ m : Nat, ∃ o, a = (m : Int) ∧ m < 256 ∧ sR[m]? = some o :=
 ⟨a.toNat, _, aR, aR, aMp I⟩
structure Fine (a : Int) (o : cJ) : Prop where
 kind : 1 ≤ o.kind ∧ o.kind ≤ 46
 size : 1 ≤ o.size ∧ o.size ≤ 3
 num : 0 ≤ o.n ∧ o.n < 65536
 small : o.size = 3 ∨ o.n < 256
def aK4 {b : Int} (hb : 0 ≤ b ∧ b < 256) : Fine 203 (Ap b) := by
 unfold Ap
 split <;> exact ⟨⟨fU, fU⟩, ⟨fU, fU⟩, ⟨fU, fU⟩, .inr sV⟩
def T6 {a b c : Int} (ha : 0 ≤ a ∧ a < 256) (hb : 0 ≤ b ∧ b < 256) (hc : 0 ≤ c ∧ c < 256) : Fine a (zY a b c) := by
 by_cases h : a = 203
 ·rw [J3 h, h]; exact aK4 hb
 ·obtain ⟨m, o, hm, _, ho⟩ := Wa ha.1 ha.2
  have hr := aK3 ho
  rw [Jd hm h ho]
  by_cases h2 : o.size = 2
  ·rw [Vt h2]; exact ⟨⟨hr.1, hr.2.1⟩, ⟨hr.2.2.1, hr.2.2.2.1⟩, ⟨hb.1, fU⟩, .inr hb.2⟩
  ·by_cases h3 : o.size = 3
   ·rw [Ys h3]; exact ⟨⟨hr.1, hr.2.1⟩, ⟨hr.2.2.1, hr.2.2.2.1⟩, ⟨fU, fU⟩, .inl h3⟩
   ·rw [Ze h2 h3]; exact ⟨⟨hr.1, hr.2.1⟩, ⟨hr.2.2.1, hr.2.2.2.1⟩, ⟨hr.2.2.2.2.1, aR⟩, .inr hr.2.2.2.2.2⟩
def iS (c : Bool) : Int := if c = true then 1 else 0
def fl (z n h c : Bool) : Int := (if z = true then 128 else 0) + (if n = true then 64 else 0) + (if h = true then 32 else 0) + (if c = true then 16 else 0)
def zF (f : Int) : Bool := f / 128 == 1
def nF (f : Int) : Bool := f / 64 % 2 == 1
def hF (f : Int) : Bool := f / 32 % 2 == 1
def cF (f : Int) : Bool := f / 16 % 2 == 1
def qK (a b : Int) (c : Bool) : Int := (a + b + iS c) % 256
def Av (a b : Int) (c : Bool) : Int := fl (qK a b c == 0) false (decide (15 < a % 16 + b % 16 + iS c)) (decide (255 < a + b + iS c))
def rG (a b : Int) (c : Bool) : Int := (a - b - iS c) % 256
def sU (a b : Int) (c : Bool) : Int := fl (rG a b c == 0) true (decide (a % 16 < b % 16 + iS c)) (decide (a < b + iS c))
def sZ (k : Int) (r : Int) : Int := fl (r == 0) false (k == 0) false
def zP (a : Int) : Int := (a + 1) % 256
def Sc (a f : Int) : Int := fl (zP a == 0) false (a % 16 == 15) (cF f)
def Am (a : Int) : Int := (a - 1) % 256
def Tu (a f : Int) : Int := fl (Am a == 0) true (a % 16 == 0) (cF f)
def daaC (a f : Int) : Bool := cF f || (!nF f && decide (153 < a))
def daaL (a f : Int) : Bool := hF f || (!nF f && decide (9 < a % 16))
def fg (x : Int) (b : Bool) : Int := if b = true then x else 0
def daaB (a f : Int) : Int := fg 6 (daaL a f) + fg 96 (daaC a f)
def tI (a f : Int) : Int := if nF f = true then (a - daaB a f) % 256 else (a + daaB a f) % 256
def Pu (a f : Int) : Int := fl (tI a f == 0) (nF f) false (daaC a f)
def turnO (k a : Int) : Bool := if k % 8 = 6 then false else if k % 8 = 0 ∨ k % 8 = 2 ∨ k % 8 = 4 then a / 128 == 1 else a % 2 == 1
def gU (k a f : Int) : Int :=
 if k % 8 = 0 then a * 2 % 256 + a / 128 else if k % 8 = 1 then a / 2 + a % 2 * 128 else if k % 8 = 2 then a * 2 % 256 + iS (cF f) else if k % 8 = 3 then a / 2 + iS (cF f) * 128
 else if k % 8 = 4 then a * 2 % 256 else if k % 8 = 5 then a / 2 + a / 128 * 128 else if k % 8 = 6 then a % 16 * 16 + a / 16 else a / 2
def mH (k a f : Int) : Int := fl (gU k a f == 0) false false (turnO k a)
def Uh (n a f : Int) : Int := fl (a / 2 ^ (n % 8).toNat % 2 == 0) false true (cF f)
def yR (a b : Int) : Int := (a + b) % 65536
def Hc (a b f : Int) : Int := fl (zF f) false (decide (4095 < a % 4096 + b % 4096)) (decide (65535 < a + b))
def s8 (e : Int) : Int := if 127 < e then e - 256 else e
def qS (a e : Int) : Int := (a + s8 e) % 65536
def wQ (a e : Int) : Int := fl false false (decide (15 < a % 16 + e % 16)) (decide (255 < a % 256 + e))
def D9 (z h c : Bool) : bL .u8 (bL .u8 (fg 128 z) (fg 32 h)) (fg 16 c) = fl z false h c := by cases z <;> cases h <;> cases c <;> decide
def aAw (z h c : Bool) : bL .u8 (bL .u8 (bL .u8 (fg 128 z) 64) (fg 32 h)) (fg 16 c) = fl z true h c := by cases z <;> cases h <;> cases c <;> decide
def aNi (z : Bool) : bL .u8 (fg 128 z) 32 = fl z false true false := by cases z <;> decide
def N9 (z : Bool) : fg 128 z = fl z false false false := by cases z <;> decide
def aMj (z c : Bool) : bL .u8 (bL .u8 (fg 128 z) 32) (fg 16 c) = fl z false true c := by cases z <;> cases c <;> decide
def aHH (z n c : Bool) : bL .u8 (bL .u8 (fg 128 z) (fg 64 n)) (fg 16 c) = fl z n false c := by cases z <;> cases n <;> cases c <;> decide
def or_zc (z c : Bool) : bL .u8 (fg 128 z) (fg 16 c) = fl z false false c := by cases z <;> cases c <;> decide
def aLo (h c : Bool) : bL .u8 (fg 32 h) (fg 16 c) = fl false false h c := by cases h <;> cases c <;> decide
def Zw (x k : Int) (v : Int) : v / k % 2 * x = fg x (v / k % 2 == 1) := by
 unfold fg
 rcases (show v / k % 2 = 0 ∨ v / k % 2 = 1 by omega) with h | h <;> rw [h] <;> simp
def Wn (f : Int) : f / 16 % 2 * 16 = fg 16 (cF f) := Zw 16 16 f
def aPs (f : Int) : f / 64 % 2 * 64 = fg 64 (nF f) := Zw 64 64 f
def aMv {f : Int} (h : 0 ≤ f ∧ f < 256) : f / 128 % 2 * 128 = fg 128 (zF f) := by
 rw [Zw 128 128 f]
 unfold zF
 rw [show f / 128 % 2 = f / 128 by omega]
def aKR (z h c : Bool) : bL .u8 (bL .u8 (fg 128 z) (fg 32 h)) (fg 16 c) = fl z false h c := D9 z h c
def aIN {e : Int} (h : 0 ≤ e ∧ e < 256) : IntKind.wrap .i8 e = s8 e :=
 eH (p := fun e => IntKind.wrap .i8 e = s8 e) eU h.1 h.2
def Q6 (n : Int) (j : Nat) (hj : j < 60) : aQ .i64 n (2 ^ j - 1 : Nat) = n % (2 ^ j : Nat) := by
 have h1 : 2 ^ j < 2 ^ 60 := Nat.pow_lt_pow_right M hj
 have hp : 0 < 2 ^ j := kc j
 have h2 : (BitVec.ofInt 64 n &&& BitVec.ofInt 64 ((2 ^ j - 1 : Nat) : Int)).toNat = (n % (2 ^ j : Nat)).toNat := by
  rw [ia, f5, f5]
  have e1 : (((2 ^ j - 1 : Nat) : Int) % ((2 ^ 64 : Nat) : Int)).toNat = 2 ^ j - 1 := by omega
  rw [e1, fw]
  obtain ⟨q, hq⟩ : (2 ^ j : Nat) ∣ 2 ^ 64 := Nat.pow_dvd_pow 2 I
  have h3 : n % ((2 ^ 64 : Nat) : Int) % ((2 ^ j : Nat) : Int) = n % ((2 ^ j : Nat) : Int) := Int.emod_emod_of_dvd n (by rw [hq]; exact ⟨q, by push_cast; rfl⟩)
  have h4 : 0 ≤ n % ((2 ^ 64 : Nat) : Int) := fx _ M
  rw [← h3, Int.toNat_emod h4 (im _), db]
 show IntKind.wrap .i64 ((BitVec.ofInt 64 n &&& BitVec.ofInt 64 ((2 ^ j - 1 : Nat) : Int)).toNat : Int) = _
 rw [h2]
 have h5 : 0 ≤ n % ((2 ^ j : Nat) : Int) := fx _ I
 have h6 : n % ((2 ^ j : Nat) : Int) < ((2 ^ j : Nat) : Int) := f7 _ I
 rw [d6 h5]
 exact bY I I
def aDn (n : Int) : aQ .i64 n 7 = n % 8 := Q6 n 3 M
def aQO (n : Int) {a : Int} (h : 0 ≤ a ∧ a < 256) : 0 ≤ a / 2 ^ (n % 8).toNat ∧ a / 2 ^ (n % 8).toNat < 256 := by
 have hp : 0 < (2 : Int) ^ (n % 8).toNat := gp M
 refine ⟨kb h.1 I, ?_⟩
 exact Int.lt_of_le_of_lt (j1 _ h.1) h.2
def aIf {a m : Int} (h : 0 ≤ m ∧ m < 8) : shr .u8 a m = a / 2 ^ m.toNat := by
 unfold shr
 rw [show min m.toNat (IntKind.bits .u8) = m.toNat from fv (by show m.toNat ≤ 8; omega)]
 exact et _ (j4 (gp M))
def aAB {p : Int → Bool → Prop} (h : ∀ n : Fin 256, ∀ b : Bool, p (n.val : Int) b) {x : Int} (hx : 0 ≤ x ∧ x < 256) (b : Bool) : p x b := eH (p := fun x => p x b) (fun n => h n b) hx.1 hx.2
def aMZ {f : Int} (h : 0 ≤ f ∧ f < 256) : (aQ .u8 f 64 != 0) = nF f := eH (p := fun f => (aQ .u8 f 64 != 0) = nF f) eU h.1 h.2
def aKI {f : Int} (h : 0 ≤ f ∧ f < 256) : (aQ .u8 f 32 != 0) = hF f := eH (p := fun f => (aQ .u8 f 32 != 0) = hF f) eU h.1 h.2
def Ve {f : Int} (h : 0 ≤ f ∧ f < 256) : (aQ .u8 f 16 != 0) = cF f := eH (p := fun f => (aQ .u8 f 16 != 0) = cF f) eU h.1 h.2
def aCp {f : Int} (h : 0 ≤ f ∧ f < 256) : (aQ .u8 f 128 != 0) = zF f := eH (p := fun f => (aQ .u8 f 128 != 0) = zF f) eU h.1 h.2
def aEg {f : Int} (h : 0 ≤ f ∧ f < 256) : aQ .u8 f 16 = fg 16 (cF f) := eH (p := fun f => aQ .u8 f 16 = fg 16 (cF f)) eU h.1 h.2
def aIn (c : Bool) : (fg 16 c != 0) = c := by cases c <;> decide
def or_96 (c : Bool) : bL .u8 (fg 6 c) 96 = fg 6 c + 96 := by cases c <;> decide
def aNl (c : Bool) : shr .u8 (fg 16 c) 4 = iS c := by cases c <;> decide
def aK1 {a : Int} (h : 0 ≤ a ∧ a < 256) (c : Bool) : bL .u8 (a * 2 % 256) (iS c) = a * 2 % 256 + iS c := aAB (p := fun a c => bL .u8 (a * 2 % 256) (iS c) = a * 2 % 256 + iS c) eU h c
def aIq {a : Int} (h : 0 ≤ a ∧ a < 256) (c : Bool) : bL .u8 (a / 2) (iS c * 128) = a / 2 + iS c * 128 := aAB (p := fun a c => bL .u8 (a / 2) (iS c * 128) = a / 2 + iS c * 128) eU h c
def aFO {a : Int} (h : 0 ≤ a ∧ a < 256) : bL .u8 (a / 2) (a % 2 * 128) = a / 2 + a % 2 * 128 := eH (p := fun a => bL .u8 (a / 2) (a % 2 * 128) = a / 2 + a % 2 * 128) eU h.1 h.2
def aFR {a : Int} (h : 0 ≤ a ∧ a < 256) : bL .u8 (a / 2) (a / 128 % 2 * 128) = a / 2 + a / 128 * 128 := eH (p := fun a => bL .u8 (a / 2) (a / 128 % 2 * 128) = a / 2 + a / 128 * 128) eU h.1 h.2
def aNn {a : Int} (h : 0 ≤ a ∧ a < 256) : bL .u8 (shl .u8 a 1) (shr .u8 a 7) = a * 2 % 256 + a / 128 := eH (p := fun a => bL .u8 (shl .u8 a 1) (shr .u8 a 7) = a * 2 % 256 + a / 128) eU h.1 h.2
def aMQ {a : Int} (h : 0 ≤ a ∧ a < 256) : bL .u8 (shl .u8 a 4) (shr .u8 a 4) = a % 16 * 16 + a / 16 := eH (p := fun a => bL .u8 (shl .u8 a 4) (shr .u8 a 4) = a % 16 * 16 + a / 16) eU h.1 h.2
def x16 {x : Int} (h : x = 0 ∨ x = 1) : x * 16 = fg 16 (x == 1) := by rcases h with rfl | rfl <;> decide
def Pc (c : Bool) : 0 ≤ iS c ∧ iS c ≤ 1 := by cases c <;> decide
def vT (z n h c : Bool) : 0 ≤ fl z n h c ∧ fl z n h c < 256 := by cases z <;> cases n <;> cases h <;> cases c <;> decide
structure CR where
 a : Int
 f : Int
 b : Int
 c : Int
 d : Int
 e : Int
 h : Int
 l : Int
 sp : Int
 pc : Int
deriving DecidableEq
structure CR.Ok (r : CR) : Prop where
 a : 0 ≤ r.a ∧ r.a < 256
 f : 0 ≤ r.f ∧ r.f < 256
 b : 0 ≤ r.b ∧ r.b < 256
 c : 0 ≤ r.c ∧ r.c < 256
 d : 0 ≤ r.d ∧ r.d < 256
 e : 0 ≤ r.e ∧ r.e < 256
 h : 0 ≤ r.h ∧ r.h < 256
 l : 0 ≤ r.l ∧ r.l < 256
 sp : 0 ≤ r.sp ∧ r.sp < 65536
 pc : 0 ≤ r.pc ∧ r.pc < 65536
def cR (r : CR) : AA := [.int .u8 r.a, .int .u8 r.f, .int .u8 r.b, .int .u8 r.c, .int .u8 r.d, .int .u8 r.e, .int .u8 r.h, .int .u8 r.l, .int .u16 r.sp, .int .u16 r.pc]
def r0 : CR := ⟨0, 0, 0, 0, 0, 0, 0, 0, 0, 0⟩
def yX (r : CR) (n : Int) : Int := if n = 0 then r.b else if n = 1 then r.c else if n = 2 then r.d else if n = 3 then r.e else if n = 4 then r.h else if n = 5 then r.l else if n = 7 then r.a else 0
def qT (r : CR) (n x : Int) : CR :=
 if n = 0 then { r with b := x } else if n = 1 then { r with c := x } else if n = 2 then { r with d := x } else if n = 3 then { r with e := x } else if n = 4 then { r with h := x } else if n = 5 then { r with l := x } else if n = 7 then { r with a := x } else r0
def dD (r : CR) (n : Int) : Int := if n = 0 then r.b * 256 + r.c else if n = 1 then r.d * 256 + r.e else if n = 2 then r.h * 256 + r.l else if n = 3 then r.sp else if n = 4 then r.a * 256 + r.f / 16 * 16 else 0
def iT (r : CR) (n x : Int) : CR :=
 if n = 0 then { r with b := x / 256, c := x % 256 } else if n = 1 then { r with d := x / 256, e := x % 256 } else if n = 2 then { r with h := x / 256, l := x % 256 } else if n = 3 then { r with sp := x }
 else if n = 4 then { r with a := x / 256, f := x % 256 / 16 * 16 } else r0
def Ev (r : CR) (n : Int) : Bool := if n = 0 then !zF r.f else if n = 1 then zF r.f else if n = 2 then !cF r.f else if n = 3 then cF r.f else n == 4
def atL (rb : Nat) : AA := [.pointer (some ⟨rb, 2, none⟩), .pointer (some ⟨rb, 3, none⟩), .pointer (some ⟨rb, 4, none⟩), .pointer (some ⟨rb, 5, none⟩), .pointer (some ⟨rb, 6, none⟩), .pointer (some ⟨rb, 7, none⟩), .pointer none, P_ rb]
def kC (rb : Nat) (n : Int) : AH := if n < 0 ∨ 8 ≤ n then .pointer none else (atL rb).getD n.toNat (.pointer none)
def Ao (n : Int) : Prop := n < 0 ∨ n = 6 ∨ 8 ≤ n
def aCd (n : Int) : n = 0 ∨ n = 1 ∨ n = 2 ∨ n = 3 ∨ n = 4 ∨ n = 5 ∨ n = 7 ∨ Ao n := by unfold Ao; omega
def O6 {n : Int} (h : Ao n) (rb : Nat) : kC rb n = .pointer none := by
 unfold Ao at h
 rcases h with h | h | h
 ·unfold kC; rw [ag (.inl h)]
 ·subst h; rfl
 ·unfold kC; rw [ag (.inr h)]
def aNE {n : Int} (h : Ao n) (r : CR) : yX r n = 0 := by unfold Ao at h; unfold yX; repeat rw [ae I]
def aPq {n : Int} (h : Ao n) (r : CR) (x : Int) : qT r n x = r0 := by unfold Ao at h; unfold qT; repeat rw [ae I]
def aCR {n : Int} (h : n < 0 ∨ 4 < n) (r : CR) : dD r n = 0 := by unfold dD; repeat rw [ae I]
def setPR_no {n : Int} (h : n < 0 ∨ 4 < n) (r : CR) (x : Int) : iT r n x = r0 := by unfold iT; repeat rw [ae I]
def yS {h l : Int} (hh : 0 ≤ h ∧ h < 256) (hl : 0 ≤ l ∧ l < 256) : bL .u16 (h * 256) l = h * 256 + l := by
 have e : ∀ x y : Int, bL .u16 x y = bL .u16 y x := fun x y => by unfold bL; rw [BitVec.or_comm]
 have := M9 hl hh
 rw [e, show shl .u16 h 8 = h * 256 by unfold shl; exact tW (by show 0 ≤ h * 2 ^ 8; omega) (by show h * 2 ^ 8 < 65536; omega)] at this
 omega
def aPJ {x : Nat} (h : x < 65536) : x &&& 65520 = x / 16 * 16 := by
 apply je
 intro i
 rw [ke, show x / 16 * 16 = (x >>> 4) <<< 4 by rw [jv, j3], i3, Nat.testBit_shiftRight]
 have hb : ∀ i, i < 16 → Nat.testBit 65520 i = decide (4 ≤ i) := by decide
 by_cases hi : i < 16
 ·rw [hb i hi]
  by_cases h4 : 4 ≤ i
  ·rw [show 4 + (i - 4) = i by omega]; simp [h4]
  ·simp [h4]
 ·have hx : x.testBit i = false := Nat.testBit_lt_two_pow (ef h (show 2 ^ 16 ≤ 2 ^ i from gf M I))
  rw [show 4 + (i - 4) = i by omega, hx]; simp
def aMr {x : Int} (h : 0 ≤ x ∧ x < 65536) : lB .u16 x 15 = x / 16 * 16 := by
 obtain ⟨m, rfl⟩ : ∃ m : Nat, x = m := ⟨x.toNat, aR⟩
 have h1 : (BitVec.ofInt 16 (m : Int) &&& ~~~BitVec.ofInt 16 15).toNat = m / 16 * 16 := by
  rw [ia, show (~~~BitVec.ofInt 16 15).toNat = 65520 by decide, show (BitVec.ofInt 16 (m : Int)).toNat = m by rw [f5]; omega]
  exact aPJ I
 show IntKind.wrap .u16 ((BitVec.ofInt 16 (m : Int) &&& ~~~BitVec.ofInt 16 15).toNat : Int) = _
 rw [h1]
 exact (tW I I).trans I
def aFG {f : Int} (h : 0 ≤ f ∧ f < 256) : aQ .u8 f 240 = f / 16 * 16 := eH (p := fun f => aQ .u8 f 240 = f / 16 * 16) eU h.1 h.2
def R7 {n : Int} (h : n = 0 ∨ n = 1) (r : CR) : (zF r.f == (n == 1)) = Ev r n := by
 rcases h with rfl | rfl
 ·show (zF r.f == false) = !zF r.f; cases zF r.f <;> rfl
 ·show (zF r.f == true) = zF r.f; cases zF r.f <;> rfl
def aEo {n : Int} (h : n = 2 ∨ n = 3) (r : CR) : (cF r.f == (n == 3)) = Ev r n := by
 rcases h with rfl | rfl
 ·show (cF r.f == false) = !cF r.f; cases cF r.f <;> rfl
 ·show (cF r.f == true) = cF r.f; cases cF r.f <;> rfl
def aJJ {n : Int} (h0 : n ≠ 0) (h1 : n ≠ 1) (h2 : n ≠ 2) (h3 : n ≠ 3) (r : CR) : (n == 4) = Ev r n := by unfold Ev; rw [ae h0, ae h1, ae h2, ae h3]
def xK (n : Int) : Nat := if n = 0 then 2 else if n = 1 then 4 else if n = 2 then 6 else 0
def xO (n : Int) : Nat := if n = 0 then 3 else if n = 1 then 5 else if n = 2 then 7 else 1
def aFn : r0.Ok := ⟨iR, iR, iR, iR, iR, iR, iR, iR, iR, iR⟩
def aQL {r : CR} (h : r.Ok) (n : Int) : 0 ≤ yX r n ∧ yX r n < 256 := by
 have h1 := h.a; have h2 := h.b; have h3 := h.c; have h4 := h.d; have h5 := h.e; have h6 := h.h; have h7 := h.l
 unfold yX; repeat' split
 all_goals omega
def tH {r : CR} (h : r.Ok) (n : Int) : 0 ≤ dD r n ∧ dD r n < 65536 := by
 have h1 := h.a; have h2 := h.b; have h3 := h.c; have h4 := h.d; have h5 := h.e; have h6 := h.h; have h7 := h.l; have h8 := h.f; have h9 := h.sp
 unfold dD; repeat' split
 all_goals omega
def CR.Ok.set {r : CR} (h : r.Ok) (n : Int) {x : Int} (hx : 0 ≤ x ∧ x < 256) : (qT r n x).Ok := by
 unfold qT; repeat' split
 all_goals first | exact aFn | exact ⟨hx, h.f, h.b, h.c, h.d, h.e, h.h, h.l, h.sp, h.pc⟩ | exact ⟨h.a, h.f, hx, h.c, h.d, h.e, h.h, h.l, h.sp, h.pc⟩ | exact ⟨h.a, h.f, h.b, hx, h.d, h.e, h.h, h.l, h.sp, h.pc⟩ | exact ⟨h.a, h.f, h.b, h.c, hx, h.e, h.h, h.l, h.sp, h.pc⟩ | exact ⟨h.a, h.f, h.b, h.c, h.d, hx, h.h, h.l, h.sp, h.pc⟩ | exact ⟨h.a, h.f, h.b, h.c, h.d, h.e, hx, h.l, h.sp, h.pc⟩ | exact ⟨h.a, h.f, h.b, h.c, h.d, h.e, h.h, hx, h.sp, h.pc⟩
def CR.Ok.setP {r : CR} (h : r.Ok) (n : Int) {x : Int} (hx : 0 ≤ x ∧ x < 65536) : (iT r n x).Ok := by
 have hh : 0 ≤ x / 256 ∧ x / 256 < 256 := by omega
 have hl : 0 ≤ x % 256 ∧ x % 256 < 256 := by omega
 have hf : 0 ≤ x % 256 / 16 * 16 ∧ x % 256 / 16 * 16 < 256 := by omega
 unfold iT; repeat' split
 all_goals first | exact aFn | exact ⟨h.a, h.f, hh, hl, h.d, h.e, h.h, h.l, h.sp, h.pc⟩ | exact ⟨h.a, h.f, h.b, h.c, hh, hl, h.h, h.l, h.sp, h.pc⟩ | exact ⟨h.a, h.f, h.b, h.c, h.d, h.e, hh, hl, h.sp, h.pc⟩ | exact ⟨h.a, h.f, h.b, h.c, h.d, h.e, h.h, h.l, hx, h.pc⟩ | exact ⟨hh, hf, h.b, h.c, h.d, h.e, h.h, h.l, h.sp, h.pc⟩
structure CS where
 r : CR
 ime : Bool
 soon : Bool
 halt : Bool
 stop : Bool
deriving DecidableEq
def cS (s : CS) : AA := cR s.r ++ [.bool s.ime, .bool s.soon, .bool s.halt, .bool s.stop]
structure Dd where
 what : Int
 n : Int
 at_ : Int
 op : cJ
 taken : Bool
def oN : cJ := ⟨0, 0, 0, 0, 0⟩
def cDd (d : Dd) : AA := [.int .i64 d.what, .int .i64 d.n, .int .u16 d.at_] ++ cO d.op ++ [.bool d.taken]
structure aQ7 (β : Type) where
 fetch : Int → β → Int × β
 read : Int → β → Int × β
 write : Int → Int → β → β
 idle : β → β
 pend : β → Int
 ack : Int → β → β
structure Rn (β : Type) where
 s : CS
 m : β
def mX (w : Int) : Int := (w + 1) % 65536
def rJ (w : Int) : Int := (w - 1) % 65536
def tF (v n : Int) : Int := v - v / 2 ^ n.toNat % 2 * 2 ^ n.toNat
def wC (v n : Int) : Int := v + (1 - v / 2 ^ n.toNat % 2) * 2 ^ n.toNat
def kO (r : CR) (k b : Int) : CR :=
 if k = 0 then { r with a := qK r.a b false, f := Av r.a b false } else if k = 1 then { r with a := qK r.a b (cF r.f), f := Av r.a b (cF r.f) }
 else if k = 2 then { r with a := rG r.a b false, f := sU r.a b false } else if k = 3 then { r with a := rG r.a b (cF r.f), f := sU r.a b (cF r.f) }
 else if k = 4 then { r with a := aQ .u8 r.a b, f := sZ 0 (aQ .u8 r.a b) } else if k = 5 then { r with a := mK .u8 r.a b, f := sZ 2 (mK .u8 r.a b) }
 else if k = 6 then { r with a := bL .u8 r.a b, f := sZ 1 (bL .u8 r.a b) } else if k = 7 then { r with f := sU r.a b false } else r
section
variable {β : Type}
def Rn.reg (x : Rn β) (r : CR) : Rn β := ⟨{ x.s with r := r }, x.m⟩
def Rn.mem (x : Rn β) (m : β) : Rn β := ⟨x.s, m⟩
variable (A : aQ7 β)
def gett (n : Int) (x : Rn β) : Int × Rn β := if n = 6 then ((A.read (dD x.s.r 2) x.m).1, x.mem (A.read (dD x.s.r 2) x.m).2) else (yX x.s.r n, x)
def sett (n v : Int) (x : Rn β) : Rn β := if n = 6 then x.mem (A.write (dD x.s.r 2) v x.m) else x.reg (qT x.s.r n v)
def push1 (v : Int) (x : Rn β) : Rn β := ⟨{ x.s with r := { x.s.r with sp := rJ x.s.r.sp } }, A.write (rJ x.s.r.sp) v x.m⟩
def push (w : Int) (x : Rn β) : Rn β := push1 A (w % 256) (push1 A (w / 256) x)
def pop1 (x : Rn β) : Int × Rn β := ((A.read x.s.r.sp x.m).1, ⟨{ x.s with r := { x.s.r with sp := mX x.s.r.sp } }, (A.read x.s.r.sp x.m).2⟩)
def pop (x : Rn β) : Int × Rn β := ((pop1 A (pop1 A x).2).1 * 256 + (pop1 A x).1, (pop1 A (pop1 A x).2).2)
def idles : Nat → Rn β → Rn β
 | 0, x => x
 | n + 1, x => (idles n x).mem (A.idle (idles n x).m)
def change (n : Int) (g : Int → Int → Int × Int) (x : Rn β) : Rn β :=
 let q := gett A n x
 let y := sett A n (g q.1 q.2.s.r.f).1 q.2
 y.reg { y.s.r with f := (g q.1 q.2.s.r.f).2 }
def far (n : Int) (x : Rn β) : Int × Rn β :=
 if n < 2 then (dD x.s.r n, x) else (dD x.s.r 2, x.reg (iT x.s.r 2 (if n = 2 then mX (dD x.s.r 2) else rJ (dD x.s.r 2))))
def goto (w : Int) (x : Rn β) : Rn β := x.reg { x.s.r with pc := w }
def kQ (k : Int) : Bool := decide (k = 7 ∨ k = 8 ∨ (10 ≤ k ∧ k ≤ 13) ∨ (17 ≤ k ∧ k ≤ 22) ∨ (44 ≤ k ∧ k ≤ 46))
def gT (o : cJ) (x : Rn β) : Rn β :=
 if o.kind = 7 then sett A o.x (gett A o.y x).1 (gett A o.y x).2
 else if o.kind = 8 then sett A o.x (o.n % 256) x
 else if o.kind = 10 then (gett A o.y x).2.reg (kO (gett A o.y x).2.s.r o.x (gett A o.y x).1)
 else if o.kind = 11 then x.reg (kO x.s.r o.x (o.n % 256))
 else if o.kind = 12 then change A o.x (fun v f => (zP v, Sc v f)) x
 else if o.kind = 13 then change A o.x (fun v f => (Am v, Tu v f)) x
 else if o.kind = 17 then change A o.y (fun v f => (gU o.x v f, mH o.x v f)) x
 else if o.kind = 18 then x.reg { x.s.r with a := gU o.x x.s.r.a x.s.r.f, f := fl false false false (turnO o.x x.s.r.a) }
 else if o.kind = 44 then (gett A o.y x).2.reg { (gett A o.y x).2.s.r with f := Uh o.x (gett A o.y x).1 x.s.r.f }
 else if o.kind = 45 then sett A o.y (tF (gett A o.y x).1 o.x) (gett A o.y x).2
 else if o.kind = 46 then sett A o.y (wC (gett A o.y x).1 o.x) (gett A o.y x).2
 else if o.kind = 19 then x.reg { x.s.r with a := tI x.s.r.a x.s.r.f, f := Pu x.s.r.a x.s.r.f }
 else if o.kind = 20 then x.reg { x.s.r with a := 255 - x.s.r.a, f := fl (zF x.s.r.f) true true (cF x.s.r.f) }
 else if o.kind = 21 then x.reg { x.s.r with f := fl (zF x.s.r.f) false false true }
 else if o.kind = 22 then x.reg { x.s.r with f := fl (zF x.s.r.f) false false (!cF x.s.r.f) }
 else x
def oG (k : Int) : Bool := decide (k = 9 ∨ (14 ≤ k ∧ k ≤ 16) ∨ k = 30 ∨ k = 31 ∨ (40 ≤ k ∧ k ≤ 43))
def jR (o : cJ) (x : Rn β) : Rn β :=
 if o.kind = 9 then x.reg (iT x.s.r o.x o.n)
 else if o.kind = 14 then idles A 1 (x.reg (iT x.s.r o.x (mX (dD x.s.r o.x))))
 else if o.kind = 15 then idles A 1 (x.reg (iT x.s.r o.x (rJ (dD x.s.r o.x))))
 else if o.kind = 16 then idles A 1 (x.reg (iT { x.s.r with f := Hc (dD x.s.r 2) (dD x.s.r o.x) x.s.r.f } 2 (yR (dD x.s.r 2) (dD x.s.r o.x))))
 else if o.kind = 41 then idles A 2 (x.reg { x.s.r with sp := qS x.s.r.sp (o.n % 256), f := wQ x.s.r.sp (o.n % 256) })
 else if o.kind = 42 then idles A 1 (x.reg (iT { x.s.r with f := wQ x.s.r.sp (o.n % 256) } 2 (qS x.s.r.sp (o.n % 256))))
 else if o.kind = 43 then idles A 1 (x.reg { x.s.r with sp := dD x.s.r 2 })
 else if o.kind = 30 then push A (dD (idles A 1 x).s.r o.x) (idles A 1 x)
 else if o.kind = 31 then (pop A x).2.reg (iT (pop A x).2.s.r o.x (pop A x).1)
 else if o.kind = 40 then x.mem (A.write (mX o.n) (x.s.r.sp / 256) (A.write o.n (x.s.r.sp % 256) x.m))
 else x
def isP (k : Int) : Bool := decide (32 ≤ k ∧ k ≤ 39)
def place (o : cJ) (x : Rn β) : Int × Rn β :=
 if o.kind = 32 ∨ o.kind = 33 then far o.x x else if o.kind = 34 ∨ o.kind = 35 then (65280 + o.n % 256, x) else if o.kind = 36 ∨ o.kind = 37 then (65280 + x.s.r.c, x) else (o.n, x)
def lU (o : cJ) (x : Rn β) : Rn β :=
 let p := place o x
 if o.kind = 32 ∨ o.kind = 34 ∨ o.kind = 36 ∨ o.kind = 38 then ⟨{ p.2.s with r := { p.2.s.r with a := (A.read p.1 p.2.m).1 } }, (A.read p.1 p.2.m).2⟩
 else p.2.mem (A.write p.1 p.2.s.r.a p.2.m)
def metJ (o : cJ) (x : Rn β) : Bool := !(decide (23 ≤ o.kind ∧ o.kind ≤ 26)) || Ev x.s.r o.x
def effJ (o : cJ) (x0 : Rn β) : Rn β :=
 let x := if o.kind = 26 ∧ o.x ≠ 4 then idles A 1 x0 else x0
 if metJ o x0 = false then x
 else if o.kind = 23 then goto ((x.s.r.pc + s8 (o.n % 256)) % 65536) (idles A 1 x)
 else if o.kind = 24 then goto o.n (idles A 1 x)
 else if o.kind = 25 ∨ o.kind = 28 then goto o.n (push A x.s.r.pc (idles A 1 x))
 else if o.kind = 27 then idles A 1 (goto (pop A ⟨{ x.s with ime := true }, x.m⟩).1 (pop A ⟨{ x.s with ime := true }, x.m⟩).2)
 else if o.kind = 26 then idles A 1 (goto (pop A x).1 (pop A x).2)
 else if o.kind = 29 then goto (dD x.s.r 2) x
 else x
def ordT (o : cJ) (at_ : Int) (x : Rn β) : Bool × Rn β :=
 if o.kind = 2 then (true, ⟨{ x.s with stop := true }, x.m⟩)
 else if o.kind = 3 then (true, ⟨{ x.s with halt := true }, x.m⟩)
 else if o.kind = 4 then (true, goto at_ x)
 else if o.kind = 5 then (true, ⟨{ x.s with ime := false }, x.m⟩)
 else if o.kind = 6 then (true, ⟨{ x.s with soon := true }, x.m⟩)
 else if kQ o.kind = true then (true, gT A o x)
 else if oG o.kind = true then (true, jR A o x)
 else if isP o.kind = true then (true, lU A o x)
 else (metJ o x, effJ A o x)
def fetch1 (x : Rn β) : Int × Rn β := ((A.fetch x.s.r.pc x.m).1, ⟨{ x.s with r := { x.s.r with pc := mX x.s.r.pc } }, (A.fetch x.s.r.pc x.m).2⟩)
structure Nx (β : Type) where
 b : AB
 o : cJ
 x : Rn β
def Yt (q : Nx β) (i : Nat) : Nx β :=
 let p := fetch1 A q.x
 let b := q.b.set i p.1
 ⟨b, zY (b.getD 0 0) (b.getD 1 0) (b.getD 2 0), p.2⟩
def N5 (x : Rn β) : Nx β := ⟨[0, 0, 0], ⟨0, 0, 0, 1, 0⟩, x⟩
def iN (x : Rn β) : Nat → Nx β
 | 0 => N5 x
 | n + 1 => Yt A (iN x n) n
def nextT (x : Rn β) : cJ × Rn β :=
 if ((iN A x 1).o.size ≤ 1) then ((iN A x 1).o, (iN A x 1).x) else if ((iN A x 2).o.size ≤ 2) then ((iN A x 2).o, (iN A x 2).x) else ((iN A x 3).o, (iN A x 3).x)
def nE (p : Int) : Int := if p % 2 = 1 then 0 else if p / 2 % 2 = 1 then 1 else if p / 4 % 2 = 1 then 2 else if p / 8 % 2 = 1 then 3 else 4
def zR (p : Int) (x : Rn β) : Rn β :=
 let y := push A x.s.r.pc (idles A 2 x)
 let z := idles A 1 (y.mem (A.ack (nE p) y.m))
 ⟨{ z.s with ime := false, soon := false, r := { z.s.r with pc := 64 + 8 * nE p } }, z.m⟩
def fK (x : Rn β) : Dd × Rn β :=
 if x.s.stop = true then (⟨0, 0, x.s.r.pc, oN, false⟩, ⟨{ x.s with stop := A.pend (A.idle x.m) / 16 % 2 == 0 }, A.idle x.m⟩)
 else if x.s.halt = true ∧ A.pend x.m = 0 then (⟨0, 0, x.s.r.pc, oN, false⟩, x.mem (A.idle x.m))
 else
  let y : Rn β := ⟨{ x.s with halt := false }, x.m⟩
  if x.s.ime = true ∧ A.pend x.m ≠ 0 then (⟨2, nE (A.pend x.m), x.s.r.pc, oN, false⟩, zR A (A.pend x.m) y)
  else
   let q := nextT A ⟨{ y.s with soon := false }, y.m⟩
   let t := ordT A q.1 x.s.r.pc q.2
   (⟨1, 0, x.s.r.pc, q.1, t.1⟩, if x.s.soon = true ∧ q.1.kind ≠ 5 then ⟨{ t.2.s with ime := true }, t.2.m⟩ else t.2)
end
structure aQ8 (β : Type) extends aQ7 β where
 ok : Nat → β → Prop
 oF : ∀ {n : Nat} {m : β} {a : Int}, ok (n + 1) m → 0 ≤ a ∧ a < 65536 → ok n (fetch a m).2 ∧ 0 ≤ (fetch a m).1 ∧ (fetch a m).1 < 256
 oR : ∀ {n : Nat} {m : β} {a : Int}, ok (n + 1) m → 0 ≤ a ∧ a < 65536 → ok n (read a m).2 ∧ 0 ≤ (read a m).1 ∧ (read a m).1 < 256
 oW : ∀ {n : Nat} {m : β} {a x : Int}, ok (n + 1) m → 0 ≤ a ∧ a < 65536 → 0 ≤ x ∧ x < 256 → ok n (write a x m)
 oI : ∀ {n : Nat} {m : β}, ok (n + 1) m → ok n (idle m)
 oP : ∀ {n : Nat} {m : β}, ok n m → 0 ≤ pend m ∧ pend m < 32
 oA : ∀ {k : Nat} {m : β} {n : Int}, ok k m → 0 ≤ n ∧ n < 5 → ok k (ack n m)
 oL : ∀ {n k : Nat} {m : β}, ok n m → k ≤ n → ok k m
structure lX (P : AL) (β : Type) extends aQ8 β where
 t0 : AJ
 v : AH
 rep : β → aF → Prop
 fF : Nat
 fR : Nat
 fW : Nat
 fI : Nat
 fP : Nat
 fA : Nat
 mF : yN P t0 "Fetch" fF
 mR : yN P t0 "Read" fR
 mW : yN P t0 "Write" fW
 mI : yN P t0 "Idle" fI
 mP : yN P t0 "Pending" fP
 mA : yN P t0 "Ack" fA
 cF : gR P fF = true
 cR : gR P fR = true
 cW : gR P fW = true
 cI : gR P fI = true
 cP : gR P fP = true
 cA : gR P fA = true
 dF : ∀ {n : Nat} {m : β} {H : aF} {w : AI} {a : Int}, ok (n + 1) m → rep m H → St w (H.map (·.1)) H w → 0 ≤ a ∧ a < 65536 → aG P fF [v, .int .u16 a] w (H.map (·.1)) (fun u H' => u = .int .u8 (fetch a m).1 ∧ rep (fetch a m).2 H')
 dR : ∀ {n : Nat} {m : β} {H : aF} {w : AI} {a : Int}, ok (n + 1) m → rep m H → St w (H.map (·.1)) H w → 0 ≤ a ∧ a < 65536 → aG P fR [v, .int .u16 a] w (H.map (·.1)) (fun u H' => u = .int .u8 (read a m).1 ∧ rep (read a m).2 H')
 dW : ∀ {n : Nat} {m : β} {H : aF} {w : AI} {a x : Int}, ok (n + 1) m → rep m H → St w (H.map (·.1)) H w → 0 ≤ a ∧ a < 65536 → 0 ≤ x ∧ x < 256 → aG P fW [v, .int .u16 a, .int .u8 x] w (H.map (·.1)) (fun u H' => u = .tuple #[] ∧ rep (write a x m) H')
 dI : ∀ {n : Nat} {m : β} {H : aF} {w : AI}, ok (n + 1) m → rep m H → St w (H.map (·.1)) H w → aG P fI [v] w (H.map (·.1)) (fun u H' => u = .tuple #[] ∧ rep (idle m) H')
 dP : ∀ {n : Nat} {m : β} {H : aF} {w : AI}, ok n m → rep m H → St w (H.map (·.1)) H w → aG P fP [v] w (H.map (·.1)) (fun u H' => u = .int .u8 (pend m) ∧ H' = H)
 dA : ∀ {k : Nat} {m : β} {H : aF} {w : AI} {n : Int}, ok k m → rep m H → St w (H.map (·.1)) H w → 0 ≤ n ∧ n < 5 → aG P fA [v, .int .i64 n] w (H.map (·.1)) (fun u H' => u = .tuple #[] ∧ rep (ack n m) H')
instance {P : AL} {β : Type} : CoeOut (lX P β) (aQ8 β) := ⟨fun K => K.toaQ8⟩
section
variable {P : AL} {β : Type} (K : lX P β)
def cN (s : CS) : AA := cS s ++ [.iface K.t0 K.v]
def sD (rb : Nat) (x : Rn β) (H : aF) : Prop := ∃ G, H = (rb, J (cN K x.s) 355) :: G ∧ K.rep x.m G
def Hy (w : Int) (i : Nat) : Int := if i = 0 then w / 256 else w % 256
def pushN (A : aQ7 β) (w : Int) (x : Rn β) : Nat → Rn β
 | 0 => x
 | i + 1 => push1 A (Hy w i) (pushN A w x i)
def aIx (w : Int) {i : Nat} (h : i < 2) : ([.int .u8 (w / 256), .int .u8 (w % 256)] : AA)[0 + i]? = some (.int .u8 (Hy w i)) := by
 match i, h with
 | 0, _ => rfl
 | 1, _ => rfl
def aDc {w : Int} (h : 0 ≤ w ∧ w < 65536) (i : Nat) : 0 ≤ Hy w i ∧ Hy w i < 256 := by unfold Hy; split <;> omega
def popN (A : aQ7 β) (x : Rn β) : Nat → Int × Rn β
 | 0 => (0, x)
 | i + 1 => ((popN A x i).1 + (pop1 A (popN A x i).2).1 * (if i = 0 then 1 else 256), (pop1 A (popN A x i).2).2)
end
section
variable {β : Type} (K : aQ8 β)
structure RunOk (n : Nat) (x : Rn β) : Prop where
 r : x.s.r.Ok
 m : K.ok n x.m
end
section
variable {β : Type} {K : aQ8 β} {x : Rn β} {n : Nat}
def RunOk.le {k : Nat} (h : RunOk K n x) (hk : k ≤ n) : RunOk K k x := ⟨h.r, K.oL h.m hk⟩
def RunOk.reg (h : RunOk K n x) {r : CR} (hr : r.Ok) : RunOk K n (x.reg r) := ⟨hr, h.m⟩
def RunOk.mem (h : RunOk K n x) {k : Nat} {m : β} (hm : K.ok k m) : RunOk K k (x.mem m) := ⟨h.r, hm⟩
def xW {w : Int} : 0 ≤ mX w ∧ mX w < 65536 := by unfold mX; omega
def Ab {w : Int} : 0 ≤ rJ w ∧ rJ w < 65536 := by unfold rJ; omega
def CR.Ok.sp_ {r : CR} (h : r.Ok) {w : Int} (hw : 0 ≤ w ∧ w < 65536) : ({ r with sp := w } : CR).Ok := ⟨h.a, h.f, h.b, h.c, h.d, h.e, h.h, h.l, hw, h.pc⟩
def CR.Ok.pc_ {r : CR} (h : r.Ok) {w : Int} (hw : 0 ≤ w ∧ w < 65536) : ({ r with pc := w } : CR).Ok := ⟨h.a, h.f, h.b, h.c, h.d, h.e, h.h, h.l, h.sp, hw⟩
def CR.Ok.f_ {r : CR} (h : r.Ok) {w : Int} (hw : 0 ≤ w ∧ w < 256) : ({ r with f := w } : CR).Ok := ⟨h.a, hw, h.b, h.c, h.d, h.e, h.h, h.l, h.sp, h.pc⟩
def CR.Ok.a_ {r : CR} (h : r.Ok) {w : Int} (hw : 0 ≤ w ∧ w < 256) : ({ r with a := w } : CR).Ok := ⟨hw, h.f, h.b, h.c, h.d, h.e, h.h, h.l, h.sp, h.pc⟩
def RunOk.gett (h : RunOk K (n + 1) x) (k : Int) : RunOk K n (gett K.toaQ7 k x).2 ∧ 0 ≤ (gett K.toaQ7 k x).1 ∧ (gett K.toaQ7 k x).1 < 256 := by
 unfold Go.Proofs.YthigpmaadmneaaaGreatDoor.gett
 split
 ·have := K.oR h.m (tH h.r 2)
  exact ⟨h.mem this.1, this.2⟩
 ·exact ⟨h.le I, aQL h.r k⟩
def V3 (k : Int) : (gett K.toaQ7 k x).2.s = x.s := by
 unfold Go.Proofs.YthigpmaadmneaaaGreatDoor.gett; split <;> rfl
def Cv (k : Int) : (gett K.toaQ7 k x).2 = x.mem (gett K.toaQ7 k x).2.m := by
 unfold Go.Proofs.YthigpmaadmneaaaGreatDoor.gett; split <;> rfl
def RunOk.gmem (h : RunOk K (n + 1) x) (k : Int) : RunOk K n (x.mem (Go.Proofs.YthigpmaadmneaaaGreatDoor.gett K.toaQ7 k x).2.m) := by rw [← Cv]; exact (h.gett k).1
def B4 {a v : Int} {i : Nat} (hi : i < 2) (ha : 0 ≤ a ∧ a < 256) (hz : i = 0 → a = 0) (hv : 0 ≤ v ∧ v < 256) : bL .u16 a (shl .u16 v (8 * (i : Int))) = a + v * (if i = 0 then 1 else 256) := by
 match i, hi with
 | 0, _ =>
  obtain rfl := hz rfl
  rw [ag rfl]
  have e : shl .u16 v (8 * ((0 : Nat) : Int)) = v := by unfold shl; exact (tW (by show 0 ≤ v * 2 ^ 0; omega) (by show v * 2 ^ 0 < 65536; omega)).trans (by show v * 2 ^ 0 = v; omega)
  rw [e]
  have := yS (h := 0) (l := v) M hv
  simpa using this
 | 1, _ =>
  rw [ae M]
  have := M9 ha hv
  rw [show (8 * ((1 : Nat) : Int)) = 8 by rfl, this]
  omega
def RunOk.far (h : RunOk K n x) (k : Int) : RunOk K n (Go.Proofs.YthigpmaadmneaaaGreatDoor.far k x).2 ∧ 0 ≤ (Go.Proofs.YthigpmaadmneaaaGreatDoor.far k x).1 ∧ (Go.Proofs.YthigpmaadmneaaaGreatDoor.far k x).1 < 65536 := by
 unfold Go.Proofs.YthigpmaadmneaaaGreatDoor.far
 split
 ·exact ⟨h, tH h.r k⟩
 ·refine ⟨h.reg (h.r.setP 2 ?_), tH h.r 2⟩
  split
  ·exact xW
  ·exact Ab
def RunOk.sett (h : RunOk K (n + 1) x) (k : Int) {v : Int} (hv : 0 ≤ v ∧ v < 256) : RunOk K n (sett K.toaQ7 k v x) := by
 unfold Go.Proofs.YthigpmaadmneaaaGreatDoor.sett
 split
 ·exact h.mem (K.oW h.m (tH h.r 2) hv)
 ·exact (h.le I).reg (h.r.set k hv)
def RunOk.push1 (h : RunOk K (n + 1) x) {v : Int} (hv : 0 ≤ v ∧ v < 256) : RunOk K n (push1 K.toaQ7 v x) := ⟨h.r.sp_ Ab, K.oW h.m Ab hv⟩
def RunOk.push (h : RunOk K (n + 2) x) {w : Int} (hw : 0 ≤ w ∧ w < 65536) : RunOk K n (push K.toaQ7 w x) := (h.push1 (v := w / 256) I).push1 (v := w % 256) I
def RunOk.pop1 (h : RunOk K (n + 1) x) : RunOk K n (pop1 K.toaQ7 x).2 ∧ 0 ≤ (pop1 K.toaQ7 x).1 ∧ (pop1 K.toaQ7 x).1 < 256 := by
 have := K.oR h.m h.r.sp
 exact ⟨⟨h.r.sp_ xW, this.1⟩, this.2⟩
def RunOk.pop (h : RunOk K (n + 2) x) : RunOk K n (pop K.toaQ7 x).2 ∧ 0 ≤ (pop K.toaQ7 x).1 ∧ (pop K.toaQ7 x).1 < 65536 := by
 have h1 := h.pop1
 have h2 := h1.1.pop1
 refine ⟨h2.1, ?_⟩
 unfold Go.Proofs.YthigpmaadmneaaaGreatDoor.pop
 dsimp only
 omega
def RunOk.pushN (h : RunOk K (n + 2) x) {w : Int} (hw : 0 ≤ w ∧ w < 65536) : ∀ i, i ≤ 2 → RunOk K (n + (2 - i)) (pushN K.toaQ7 w x i)
 | 0, _ => h
 | i + 1, hi => RunOk.push1 ((h.pushN hw i I).le I) (aDc hw i)
def RunOk.popN (h : RunOk K (n + 2) x) : ∀ i, i ≤ 2 → RunOk K (n + (2 - i)) (popN K.toaQ7 x i).2
 | 0, _ => h
 | i + 1, hi => (RunOk.pop1 ((h.popN i I).le I)).1
def Vs : popN K.toaQ7 x 2 = pop K.toaQ7 x := by
 unfold Go.Proofs.YthigpmaadmneaaaGreatDoor.pop
 simp only [Go.Proofs.YthigpmaadmneaaaGreatDoor.popN]
 simp only [if_true, Int.zero_add, Int.mul_one]
 rw [ae M, Int.add_comm]
def aHF (h : RunOk K (n + 1) x) {i : Nat} (hi : i < 2) : 0 ≤ (popN K.toaQ7 x i).1 ∧ (popN K.toaQ7 x i).1 < 256 := by
 match i, hi with
 | 0, _ => exact ⟨iv 0, show (0 : Int) < 256 by decide⟩
 | 1, _ =>
  have := h.pop1.2
  simp only [Go.Proofs.YthigpmaadmneaaaGreatDoor.popN, if_true, Int.zero_add, Int.mul_one]
  exact this
def RunOk.idles {k : Nat} (h : RunOk K (n + k) x) : ∀ i, i ≤ k → RunOk K (n + (k - i)) (idles K.toaQ7 i x)
 | 0, _ => h
 | i + 1, hi => (h.idles i I).mem (K.oI (K.oL (h.idles i I).m I))
def RunOk.idleK (k : Nat) (h : RunOk K (n + k) x) : RunOk K n (Go.Proofs.YthigpmaadmneaaaGreatDoor.idles K.toaQ7 k x) := (h.idles k (bi _)).le I
def RunOk.fetch1 (h : RunOk K (n + 1) x) : RunOk K n (fetch1 K.toaQ7 x).2 ∧ 0 ≤ (fetch1 K.toaQ7 x).1 ∧ (fetch1 K.toaQ7 x).1 < 256 := by
 have := K.oF h.m h.r.pc
 exact ⟨⟨h.r.pc_ xW, this.1⟩, this.2⟩
end
structure rK (o : cJ) : Prop where
 n : 0 ≤ o.n ∧ o.n < 65536
 x : 0 ≤ o.x ∧ o.x < 8
 small : o.kind = 34 ∨ o.kind = 35 → o.n < 256
def aJs (o : cJ) : Bool := decide (0 ≤ o.n ∧ o.n < 256 ∧ 0 ≤ o.x ∧ o.x < 8 ∧ ((o.kind = 34 ∨ o.kind = 35) → o.size = 2))
def aHv : sR.all aJs = true := by kernel_rfl
def aI6 {a b c : Int} (ha : 0 ≤ a ∧ a < 256) (hb : 0 ≤ b ∧ b < 256) (hc : 0 ≤ c ∧ c < 256) : rK (zY a b c) := by
 by_cases h : a = 203
 ·rw [J3 h]; unfold Ap
  split <;> exact ⟨⟨fU, fU⟩, ⟨fU, fU⟩, fun hk => by dsimp only at hk ⊢; omega⟩
 ·obtain ⟨m, o, hm, _, ho⟩ := Wa ha.1 ha.2
  have hr : 0 ≤ o.n ∧ o.n < 256 ∧ 0 ≤ o.x ∧ o.x < 8 ∧ ((o.kind = 34 ∨ o.kind = 35) → o.size = 2) := dr (List.all_eq_true.1 aHv o (cw ho))
  rw [Jd hm h ho]
  by_cases h2 : o.size = 2
  ·rw [Vt h2]; exact ⟨⟨hb.1, fU⟩, ⟨hr.2.2.1, hr.2.2.2.1⟩, fun _ => hb.2⟩
  ·by_cases h3 : o.size = 3
   ·rw [Ys h3]; exact ⟨⟨fU, fU⟩, ⟨hr.2.2.1, hr.2.2.2.1⟩, fun hk => absurd (hr.2.2.2.2 hk) h2⟩
   ·rw [Ze h2 h3]; exact ⟨⟨hr.1, aR⟩, ⟨hr.2.2.1, hr.2.2.2.1⟩, fun hk => absurd (hr.2.2.2.2 hk) h2⟩
def St.notin {A B : aF} {w0 w : AI} {ms : AE} (h : St w0 ms (A ++ B) w) {x : Nat × Obj} (hx : x ∈ B) : x.1 ∉ A.map (·.1) := fun hm => by
 have := h.nodup
 rw [bz, ed] at this
 exact this.2.2 _ hm _ (List.mem_map_of_mem hx) U
def aFT (z n h c : Bool) : aQ .u8 (fl z n h c) 16 = fl false false false c := by cases z <;> cases n <;> cases h <;> cases c <;> decide
def W0 {v n : Int} (hv : 0 ≤ v ∧ v < 256) (hn : 0 ≤ n ∧ n < 8) : lB .u8 v (shl .u8 1 n) = tF v n := by
 rcases (show n = 0 ∨ n = 1 ∨ n = 2 ∨ n = 3 ∨ n = 4 ∨ n = 5 ∨ n = 6 ∨ n = 7 by omega) with rfl | rfl | rfl | rfl | rfl | rfl | rfl | rfl
 all_goals revert v; intro v hv; refine eH (p := fun v => lB .u8 v (shl .u8 1 _) = tF v _) ?_ hv.1 hv.2; decide +kernel
def aOj {v n : Int} (hv : 0 ≤ v ∧ v < 256) (hn : 0 ≤ n ∧ n < 8) : bL .u8 v (shl .u8 1 n) = wC v n := by
 rcases (show n = 0 ∨ n = 1 ∨ n = 2 ∨ n = 3 ∨ n = 4 ∨ n = 5 ∨ n = 6 ∨ n = 7 by omega) with rfl | rfl | rfl | rfl | rfl | rfl | rfl | rfl
 all_goals revert v; intro v hv; refine eH (p := fun v => bL .u8 v (shl .u8 1 _) = wC v _) ?_ hv.1 hv.2; decide +kernel
def Ru {v n : Int} (hv : 0 ≤ v ∧ v < 256) (hn : 0 ≤ n ∧ n < 8) : (0 ≤ tF v n ∧ tF v n < 256) ∧ (0 ≤ wC v n ∧ wC v n < 256) := by
 rcases (show n = 0 ∨ n = 1 ∨ n = 2 ∨ n = 3 ∨ n = 4 ∨ n = 5 ∨ n = 6 ∨ n = 7 by omega) with rfl | rfl | rfl | rfl | rfl | rfl | rfl | rfl
 all_goals revert v; intro v hv; refine eH (p := fun v => (0 ≤ tF v _ ∧ tF v _ < 256) ∧ (0 ≤ wC v _ ∧ wC v _ < 256)) ?_ hv.1 hv.2; decide +kernel
def aGO {f : Int} (h : 0 ≤ f ∧ f < 256) : bL .u8 (bL .u8 (aQ .u8 f 144) 64) 32 = fl (zF f) true true (cF f) := eH (p := fun f => bL .u8 (bL .u8 (aQ .u8 f 144) 64) 32 = fl (zF f) true true (cF f)) eU h.1 h.2
def aLQ {f : Int} (h : 0 ≤ f ∧ f < 256) : bL .u8 (aQ .u8 f 128) 16 = fl (zF f) false false true := eH (p := fun f => bL .u8 (aQ .u8 f 128) 16 = fl (zF f) false false true) eU h.1 h.2
def aJF {f : Int} (h : 0 ≤ f ∧ f < 256) : mK .u8 (aQ .u8 f 144) 16 = fl (zF f) false false (!cF f) := eH (p := fun f => mK .u8 (aQ .u8 f 144) 16 = fl (zF f) false false (!cF f)) eU h.1 h.2
def aHE {a b : Int} {c : Bool} : 0 ≤ qK a b c ∧ qK a b c < 256 := by unfold qK; omega
def aJZ {a b : Int} {c : Bool} : 0 ≤ rG a b c ∧ rG a b c < 256 := by unfold rG; omega
def Q8 {a : Int} : 0 ≤ zP a ∧ zP a < 256 := by unfold zP; omega
def O0 {a : Int} : 0 ≤ Am a ∧ Am a < 256 := by unfold Am; omega
def aN8 {a f : Int} : 0 ≤ tI a f ∧ tI a f < 256 := by unfold tI; split <;> omega
def L5 {k a f : Int} (h : 0 ≤ a ∧ a < 256) : 0 ≤ gU k a f ∧ gU k a f < 256 := by
 have := Pc (cF f)
 unfold gU; repeat' split
 all_goals omega
def K4 {a b : Int} : 0 ≤ yR a b ∧ yR a b < 65536 := by unfold yR; omega
def Lc {a b : Int} : 0 ≤ qS a b ∧ qS a b < 65536 := by unfold qS; omega
def aFU (n : Int) : IntKind.i8.wrap n = s8 (n % 256) := by
 show (if (true && decide (n % 256 ≥ 128)) = true then n % 256 - 256 else n % 256) = _
 unfold s8
 split
 ·rename_i h; simp at h; rw [ag I]
 ·rename_i h; simp at h; rw [ae I]
def aJe {a : Int} (h : 0 ≤ a ∧ a < 256) : mK .u8 255 a = 255 - a := eH (p := fun a => mK .u8 255 a = 255 - a) eU h.1 h.2
def Pn {n : Int} (h : 0 ≤ n ∧ n < 256) : bL .u16 65280 n = 65280 + n := by
 have := yS (h := 255) (l := n) M h
 simpa using this
section
variable {β : Type} (A : aQ7 β)
def In {o : cJ} (h : kQ o.kind = false) (x : Rn β) : gT A o x = x := by
 have := dw h
 unfold gT; repeat rw [ae I]
def On {o : cJ} (h : oG o.kind = false) (x : Rn β) : jR A o x = x := by
 have := dw h
 unfold jR; repeat rw [ae I]
end
section
variable {β : Type} {K : aQ8 β} {x : Rn β} {n : Nat}
def aA7 {r : CR} (h : r.Ok) (k : Int) {b : Int} : (kO r k b).Ok := by
 have hf : ∀ z n h c, 0 ≤ fl z n h c ∧ fl z n h c < 256 := vT
 have b1 : 0 ≤ aQ .u8 r.a b ∧ aQ .u8 r.a b < 256 := by unfold aQ; rw [nQ]; omega
 have b2 : 0 ≤ mK .u8 r.a b ∧ mK .u8 r.a b < 256 := by unfold mK; rw [nQ]; omega
 have b3 : 0 ≤ bL .u8 r.a b ∧ bL .u8 r.a b < 256 := by unfold bL; rw [nQ]; omega
 unfold kO Av sU sZ
 repeat' split
 all_goals first | exact h | exact (h.a_ aHE).f_ (hf _ _ _ _) | exact (h.a_ aJZ).f_ (hf _ _ _ _) | exact h.f_ (hf _ _ _ _) | exact (h.a_ b1).f_ (hf _ _ _ _) | exact (h.a_ b2).f_ (hf _ _ _ _) | exact (h.a_ b3).f_ (hf _ _ _ _)
end
section
variable {β : Type} {K : aQ8 β} {x : Rn β} {n : Nat}
structure xH (K : aQ8 β) (n : Nat) (q : Nx β) : Prop where
 x : RunOk K n q.x
 len : q.b.length = 3
 by_ : bE q.b
 o : rK q.o
 sz : q.o.size ≤ 3
def xH.le {q : Nx β} {k : Nat} (h : xH K n q) (hk : k ≤ n) : xH K k q := ⟨h.x.le hk, h.len, h.by_, h.o, h.sz⟩
def xH.next {q : Nx β} (h : xH K (n + 1) q) (i : Nat) : xH K n (Yt K.toaQ7 q i) := by
 have hf := h.x.fetch1
 have hb := yO h.by_ i hf.2
 exact ⟨hf.1, by simp [Yt, h.len], hb, aI6 (hb.get 0) (hb.get 1) (hb.get 2), (T6 (hb.get 0) (hb.get 1) (hb.get 2)).size.2⟩
def RunOk.nx (h : RunOk K (n + 3) x) : ∀ i, i ≤ 3 → xH K (n + (3 - i)) (iN K.toaQ7 x i)
 | 0, _ => ⟨h, rfl, by intro y hy; simp [N5, iN] at hy; omega, show rK ⟨0, 0, 0, 1, 0⟩ from ⟨iR, iR, iR⟩, show (1 : Int) ≤ 3 by decide⟩
 | i + 1, hi => xH.next (by rw [show n + (3 - (i + 1)) + 1 = n + (3 - i) by omega]; exact h.nx i I) i
def aGf (A : aQ7 β) {i : Nat} (hi : i ≤ 3) (hp : ∀ j : Nat, j < i → (j : Int) < (iN A x j).o.size) (he : ¬ (i : Int) < (iN A x i).o.size) : nextT A x = ((iN A x i).o, (iN A x i).x) := by
 unfold nextT
 match i, hi with
 | 0, _ => exact absurd (show (0 : Int) < 1 by decide) he
 | 1, _ => rw [ag I]
 | 2, _ =>
  have := hp 1 I
  rw [ae I, ag I]
 | 3, _ =>
  have := hp 1 I
  have := hp 2 I
  rw [ae I, ae I]
def aED (h : RunOk K (n + 3) x) : RunOk K n (nextT K.toaQ7 x).2 ∧ rK (nextT K.toaQ7 x).1 := by
 have h1 := h.nx 1 I
 have h2 := h.nx 2 I
 have h3 := h.nx 3 I
 unfold nextT
 split
 ·exact ⟨h1.x.le I, h1.o⟩
 ·split
  ·exact ⟨h2.x.le I, h2.o⟩
  ·exact ⟨h3.x.le I, h3.o⟩
def aFP {p : Int} (h : 0 ≤ p ∧ p < 32) : (aQ .u8 p 16 == 0) = (p / 16 % 2 == 0) := eH (p := fun p => (aQ .u8 p 16 == 0) = (p / 16 % 2 == 0)) eU h.1 I
def aEJ (p : Int) : 0 ≤ nE p ∧ nE p < 5 := by
 unfold nE; repeat' split
 all_goals decide
end
end Go.Proofs.YthigpmaadmneaaaGreatDoor
