/- Parts. -/
import Derived.Test.YtdbgagkcgdlnnaaGreatQtD
set_option maxRecDepth 100000
set_option maxHeartbeats 1000000
set_option linter.all false
namespace Go.Proofs.YtdbgagkcgdlnnaaGreat
open Go Go.VV Go.Proofs Go.RowKit
structure Tm where
 cnt : Int
 tima : Int
 tma : Int
 tac : Int
 over : Bool
deriving DecidableEq
def cTm (t : Tm) : AA := [.int .u16 t.cnt, .int .u8 t.tima, .int .u8 t.tma, .int .u8 t.tac, .bool t.over]
structure Tm.Ok (t : Tm) : Prop where
 cnt : 0 ≤ t.cnt ∧ t.cnt < 65536
 tima : 0 ≤ t.tima ∧ t.tima < 256
 tma : 0 ≤ t.tma ∧ t.tma < 256
 tac : 0 ≤ t.tac ∧ t.tac < 256
def aIj (tac : Int) : Nat := if tac % 4 = 0 then 9 else if tac % 4 = 1 then 3 else if tac % 4 = 2 then 5 else 7
def wR (t : Tm) : Bool := decide (t.tac / 4 % 2 = 1) && decide (t.cnt / 2 ^ aIj t.tac % 2 = 1)
def uV (t : Tm) : Tm := { t with tima := (t.tima + 1) % 256, over := t.over || (t.tima + 1) % 256 == 0 }
def xV (was : Bool) (t : Tm) : Tm := if was = true ∧ wR t = false then uV t else t
def chT (g : Tm → Tm) (t : Tm) : Tm := xV (wR t) (g t)
def aNg (t : Tm) : Tm := if t.over = true then { t with tima := t.tma, over := false } else t
def gK (t : Tm) : Tm := { t with cnt := (t.cnt + 4) % 65536 }
def lU (t : Tm) : Tm := chT gK (aNg t)
def readTm (n : Int) (t : Tm) : Int := if n = 0 then t.cnt / 256 else if n = 1 then t.tima else if n = 2 then t.tma else if n = 3 then 248 + t.tac % 8 else 255
def gG (t : Tm) : Tm := { t with cnt := 0 }
def iP (x : Int) (t : Tm) : Tm := { t with tac := x % 8 }
def writeTm (n x : Int) (t : Tm) : Tm := if n = 0 then chT gG t else if n = 1 then { t with tima := x, over := false } else if n = 2 then { t with tma := x } else if n = 3 then chT (iP x) t else t
def sig_off {t : Tm} (h : t.tac / 4 % 2 * 4 = 0) : false = wR t := by unfold wR; rw [cr o_m]; rfl
def aBO {t : Tm} (d : Int) (h : ¬ t.tac / 4 % 2 * 4 = 0) (hd : (2 : Int) ^ aIj t.tac = d) : (t.cnt / d % 2 == 1) = wR t := by unfold wR; rw [hd, ah o_m, f2]; rfl
def aBL {t : Tm} {k : Int} {n : Nat} (h : t.tac % 4 = k) (hk : k = 0 ∧ n = 9 ∨ k = 1 ∧ n = 3 ∨ k = 2 ∧ n = 5 ∨ k = 3 ∧ n = 7) : aIj t.tac = n := by
 unfold aIj; rcases hk with ⟨rfl, rfl⟩ | ⟨rfl, rfl⟩ | ⟨rfl, rfl⟩ | ⟨rfl, rfl⟩ <;> simp [h]
def rW {was : Bool} {t : Tm} (h : was = false ∨ wR t = true) : t = xV was t := by unfold xV; rw [if_neg (by rintro ⟨h1, h2⟩; rcases h with h | h <;> simp_all)]
def pU {was : Bool} {t : Tm} (h1 : was = true) (h2 : wR t = false) : uV t = xV was t := by unfold xV; rw [if_pos ⟨h1, h2⟩]
def Tm.Ok.inc {t : Tm} (h : t.Ok) : (uV t).Ok := ⟨h.cnt, by unfold uV; dsimp only; omega, h.tma, h.tac⟩
def Tm.Ok.fall {t : Tm} (h : t.Ok) (b : Bool) : (xV b t).Ok := by unfold xV; split; exact h.inc; exact h
def Tm.Ok.irq {t : Tm} (h : t.Ok) : (aNg t).Ok := by unfold aNg; split; exact ⟨h.cnt, h.tma, h.tma, h.tac⟩; exact h
def Tm.Ok.step {t : Tm} (h : t.Ok) : (gK t).Ok := ⟨by unfold gK; dsimp only; omega, h.tima, h.tma, h.tac⟩
def Tm.Ok.tick {t : Tm} (h : t.Ok) : (lU t).Ok := h.irq.step.fall _
def Tm.Ok.zero {t : Tm} (h : t.Ok) : (gG t).Ok := ⟨by unfold gG; dsimp only; omega, h.tima, h.tma, h.tac⟩
def Tm.Ok.tac_ {t : Tm} (h : t.Ok) (x : Int) : (iP x t).Ok := ⟨h.cnt, h.tima, h.tma, by unfold iP; dsimp only; omega⟩
def Tm.Ok.write {t : Tm} (h : t.Ok) (n : Int) {x : Int} (hx : 0 ≤ x ∧ x < 256) : (writeTm n x t).Ok := by
 unfold writeTm
 split
 ·exact h.zero.fall _
 split
 ·exact ⟨h.cnt, hx, h.tma, h.tac⟩
 split
 ·exact ⟨h.cnt, h.tima, hx, h.tac⟩
 split
 ·exact (h.tac_ x).fall _
 ·exact h
def aJS {t : Tm} (h : t.Ok) (n : Int) : 0 ≤ readTm n t ∧ readTm n t < 256 := by
 have h1 := h.cnt; have h2 := h.tima; have h3 := h.tma
 unfold readTm; split; omega; split; omega; split; omega; split <;> omega
structure Pt where
 data : Int
 control : Int
 last : Int
 bits : Int
 count : Int
 sent : Int
deriving DecidableEq
def cPt (p : Pt) : AA := [.int .u8 p.data, .int .u8 p.control, .int .u8 p.last, .int .i64 p.bits, .int .i64 p.count, .int .i64 p.sent]
structure Pt.Ok (p : Pt) : Prop where
 data : 0 ≤ p.data ∧ p.data < 256
 control : 0 ≤ p.control ∧ p.control < 256
 last : 0 ≤ p.last ∧ p.last < 256
 bits : 0 ≤ p.bits ∧ p.bits < 65536
 count : 0 ≤ p.count ∧ p.count < 65536
 sent : 0 ≤ p.sent ∧ p.sent < 65536
def shiftPt (p : Pt) : Pt := { p with count := 0, data := p.data % 128 * 2 + 1, bits := p.bits - 1 }
def tickPt (p : Pt) : Pt :=
 if p.bits < 1 then p else if p.count + 1 < 128 then { p with count := p.count + 1 }
 else if 0 < p.bits - 1 then shiftPt p else { shiftPt p with control := p.control % 128 }
def mT (p : Pt) : Bool := decide (¬ p.bits < 1 ∧ ¬ p.count + 1 < 128 ∧ ¬ 0 < p.bits - 1)
def readPt (n : Int) (p : Pt) : Int := if n = 0 then p.data else if n = 1 then p.control / 128 * 128 + 126 + p.control % 2 else 255
def beginPt (p : Pt) : Pt := { p with bits := 8, count := 0, last := p.data, sent := (p.sent + 1) % 65536 }
def writePt (n x : Int) (p : Pt) : Pt :=
 if n = 0 then { p with data := x }
 else if n = 1 then (if x / 128 = 1 ∧ x % 2 = 1 then beginPt { p with control := x / 128 * 128 + x % 2, bits := 0 } else { p with control := x / 128 * 128 + x % 2, bits := 0 })
 else p
def Pt.Ok.tick {p : Pt} (h : p.Ok) : (tickPt p).Ok := by
 have h1 := h.data; have h2 := h.control; have h4 := h.bits; have h5 := h.count
 unfold tickPt
 split
 ·exact h
 split
 ·exact ⟨h.data, h.control, h.last, h.bits, y_D, h.sent⟩
 split
 ·exact ⟨y_bQ, h.control, h.last, y_bQ, y_bQ, h.sent⟩
 ·exact ⟨y_bQ, y_D, h.last, y_bQ, y_bQ, h.sent⟩
def Pt.Ok.write {p : Pt} (h : p.Ok) (n : Int) {x : Int} (hx : 0 ≤ x ∧ x < 256) : (writePt n x p).Ok := by
 have h6 := h.sent
 unfold writePt
 split
 ·exact ⟨hx, h.control, h.last, h.bits, h.count, h.sent⟩
 split
 ·split
  ·exact ⟨h.data, y_cw, h.data, y_cw, y_cw, y_cw⟩
  ·exact ⟨h.data, y_D, h.last, y_D, h.count, h.sent⟩
 ·exact h
def aJH {p : Pt} (h : p.Ok) (n : Int) : 0 ≤ readPt n p ∧ readPt n p < 256 := by
 have h1 := h.data; have h2 := h.control
 unfold readPt; split; omega; split <;> omega
structure Cp where
 page : Int
 left : Int
deriving DecidableEq
def cCp (c : Cp) : AA := [.int .u8 c.page, .int .i64 c.left]
structure Cp.Ok (c : Cp) : Prop where
 page : 0 ≤ c.page ∧ c.page < 256
 left : 0 ≤ c.left ∧ c.left < 65536
def fromCp (c : Cp) : Int := if 224 ≤ c.page then (c.page - 32) * 256 else c.page * 256
def pI (c : Cp) : Bool := decide (0 < c.left)
def tickCp (c : Cp) : Cp := if 0 < c.left then { c with left := c.left - 1 } else c
def qK (c : Cp) : Int := if 0 < c.left then (fromCp c + (160 - c.left)) % 65536 else 0
def xM (c : Cp) : Int := if 0 < c.left then 160 - c.left else 0
def letsCp (c : Cp) (a : Int) : Bool := !pI c || decide (65280 ≤ a)
def sB (x : Int) : Cp := ⟨x, 160⟩
def Cp.Ok.tick {c : Cp} (h : c.Ok) : (tickCp c).Ok := by
 have h1 := h.left
 unfold tickCp; split; exact ⟨h.page, y_D⟩; exact h
def aNl (c : Cp) : 0 ≤ qK c ∧ qK c < 65536 := by unfold qK; split <;> omega
structure Pd where
 sel : Int
 down : Int
deriving DecidableEq
def cPd (p : Pd) : AA := [.int .u8 p.sel, .int .u8 p.down]
structure Pd.Ok (p : Pd) : Prop where
 sel : 0 ≤ p.sel ∧ p.sel < 256
 down : 0 ≤ p.down ∧ p.down < 256
def aCi (p : Pd) : Int := if aG .u8 p.sel 16 = 0 then bor .u8 0 p.down else 0
def oY (p : Pd) : Int := aG .u8 (if aG .u8 p.sel 32 = 0 then bor .u8 (aCi p) (shr .u8 p.down 4) else aCi p) 15
def aBY (p : Pd) : Int := bor .u8 (bor .u8 192 (aG .u8 p.sel 48)) (aG .u8 (jZ .u8 255 (oY p)) 15)
def mB (p q : Pd) : Bool := iO .u8 (oY q) (oY p) != 0
def kT (x : Int) (p : Pd) : Pd := ⟨aG .u8 x 48, p.down⟩
def gQ (x : Int) (p : Pd) : Pd := ⟨p.sel, x⟩
def aCK (x : Int) : 0 ≤ IntKind.u8.wrap x ∧ IntKind.u8.wrap x < 256 := by rw [eX]; omega
def aAX (x y : Int) : 0 ≤ aG .u8 x y ∧ aG .u8 x y < 256 := aCK _
def qC (x y : Int) : 0 ≤ bor .u8 x y ∧ bor .u8 x y < 256 := aCK _
def aI7 (p : Pd) : 0 ≤ aBY p ∧ aBY p < 256 := qC _ _
def Pd.Ok.sel_ {p : Pd} (h : p.Ok) (x : Int) : (kT x p).Ok := ⟨aAX _ _, h.down⟩
def Pd.Ok.press {p : Pd} (h : p.Ok) {x : Int} (hx : 0 ≤ x ∧ x < 256) : (gQ x p).Ok := ⟨h.sel, hx⟩
structure Chg where
 at_ : Int
 down : Int
deriving DecidableEq
def aA8 (c : Chg) : AA := [.int .u64 c.at_, .int .u8 c.down]
def aIn (o : Option Chg) (c : Chg) : Bool := match o with
 | none => true
 | some b => decide (b.at_ ≤ c.at_)
def pO (n : Int) (o : Option Chg) (c : Chg) : Option Chg := if c.at_ ≤ n ∧ aIn o c = true then some c else o
def xJ (n : Int) (l : List Chg) : Option Chg := l.foldl (pO n) none
def eC (l : List Chg) (n : Int) : Int := match xJ n l with
 | none => 0
 | some c => c.down
def mX (c : Chg) : Prop := (0 ≤ c.at_ ∧ c.at_ < 18446744073709551616) ∧ 0 ≤ c.down ∧ c.down < 256
def best_step {n : Int} {l : List Chg} {i : Nat} {c : Chg} (hc : l[i]? = some c) : xJ n (l.take (i + 1)) = pO n (xJ n (l.take i)) c := by
 unfold xJ
 rw [fk, hc, fm]
 rfl
def aB6 {n : Int} {o : Option Chg} {c : Chg} (h1 : c.at_ ≤ n) (h2 : aIn o c = true) : pO n o c = some c := if_pos ⟨h1, h2⟩
def better_no {n : Int} {o : Option Chg} {c : Chg} (h : ¬ c.at_ ≤ n ∨ aIn o c = false) : pO n o c = o := if_neg fun ⟨h1, h2⟩ => by rcases h with h | h; exact h h1; rw [h] at h2; cases h2
def cChg_len (c : Chg) : (aA8 c).length = 2 := rfl
def aJy (n : Int) (l : List Chg) (c : Chg) (h : xJ n l = some c) : c ∈ l := by
 have key : ∀ (l : List Chg) (o : Option Chg) (S : Chg → Prop), (∀ c, o = some c → S c) → (∀ c ∈ l, S c) → ∀ c, l.foldl (pO n) o = some c → S c := by
  intro l
  induction l with
  | nil => exact fun o S ho _ c h => ho c h
  | cons d l ih =>
   intro o S ho hl c h
   refine ih (pO n o d) S (fun c hc => ?_) (fun c hc => hl c (.tail _ hc)) c h
   unfold pO at hc
   split at hc
   ·cases hc; exact hl d (.head _)
   ·exact ho c hc
 exact key l none (· ∈ l) (fun c h => y_ep) (fun c h => h) c h
def aCT {l : List Chg} (h : ∀ c ∈ l, mX c) (n : Int) : 0 ≤ eC l n ∧ eC l n < 256 := by
 unfold eC
 split
 ·omega
 ·rename_i c hc; exact (h c (aJy n l c hc)).2
structure Bk where
 kind : Int
 banks : Int
 ram : Int
 on : Bool
 mode : Bool
 low : Int
 high : Int
 last : Int
deriving DecidableEq
def cBk (m : Bk) : AA := [.int .i64 m.kind, .int .i64 m.banks, .int .i64 m.ram, .bool m.on, .bool m.mode, .int .i64 m.low, .int .i64 m.high, .int .u8 m.last]
structure Bk.Ok (m : Bk) : Prop where
 kind : 0 ≤ m.kind ∧ m.kind < 256
 banks : 0 ≤ m.banks ∧ m.banks < 65536
 ram : 0 ≤ m.ram ∧ m.ram < 1048576
 low : 0 ≤ m.low ∧ m.low < 65536
 high : 0 ≤ m.high ∧ m.high < 65536
 last : 0 ≤ m.last ∧ m.last < 256
def zK (x : Int) : Bool := decide (x % 16 = 10)
def oneB (a x : Int) (m : Bk) : Bk := if a / 8192 = 0 then { m with on := zK x } else if a / 8192 = 1 then { m with low := max (x % 32) 1 } else if a / 8192 = 2 then { m with high := x % 4 } else { m with mode := decide (x % 2 = 1) }
def twoB (a x : Int) (m : Bk) : Bk := if 16384 ≤ a then m else if a / 256 % 2 = 0 then { m with on := zK x } else { m with low := max (x % 16) 1 }
def threeB (a x : Int) (m : Bk) : Bk := if a / 8192 = 0 then { m with on := zK x } else if a / 8192 = 1 then { m with low := max (x % 128) 1 } else if a / 8192 = 2 then { m with high := x % 16 } else { m with last := x }
def heldB (a x : Int) (m : Bk) : Bool := decide (¬ a / 8192 = 0 ∧ ¬ a / 8192 = 1 ∧ ¬ a / 8192 = 2 ∧ m.last = 0 ∧ x = 1)
def fiveB (a x : Int) (m : Bk) : Bk := if a / 4096 = 0 ∨ a / 4096 = 1 then { m with on := zK x } else if a / 4096 = 2 then { m with low := m.low / 256 * 256 + x } else if a / 4096 = 3 then { m with low := m.low % 256 + x % 2 * 256 } else if a / 4096 = 4 ∨ a / 4096 = 5 then { m with high := x % 16 } else m
def writeB (a x : Int) (m : Bk) : Bk :=
 if m.kind = 1 then oneB (a % 32768) x m else if m.kind = 2 then twoB (a % 32768) x m else if m.kind = 3 then threeB (a % 32768) x m else if m.kind = 5 then fiveB (a % 32768) x m else m
def latchB (a x : Int) (m : Bk) : Bool := decide (m.kind = 3) && heldB (a % 32768) x m
def numB (a : Int) (m : Bk) : Int :=
 if m.kind = 0 then (if a / 16384 % 2 = 1 then 1 else 0)
 else if m.kind = 1 then (if a / 16384 % 2 = 1 then m.high * 32 + m.low else if m.mode = true then m.high * 32 else 0)
 else if m.kind = 2 ∨ m.kind = 3 ∨ m.kind = 5 then (if a / 16384 % 2 = 1 then m.low else 0) else 0
def bankB (a : Int) (m : Bk) : Int := if m.banks < 1 then 0 else numB a m % m.banks
def aAP (a : Int) (m : Bk) : Int := 16384 * bankB a m + a % 16384
def atB_ (a : Int) (m : Bk) : Option Int :=
 if a < 40960 ∨ 49152 ≤ a ∨ m.on = false ∨ m.ram < 1 then none
 else if m.kind = 0 then some (a % 8192 % m.ram)
 else if m.kind = 1 then some ((if m.mode = true then a % 8192 + 8192 * m.high else a % 8192) % m.ram)
 else if m.kind = 2 then some (a % 8192 % 512 % m.ram)
 else if m.kind = 3 then (if 3 < m.high then none else some ((a % 8192 + 8192 * m.high) % m.ram))
 else if m.kind = 5 then some ((a % 8192 + 8192 * m.high) % m.ram) else none
def clockB (m : Bk) : Option Int := if m.kind ≠ 3 ∨ m.on = false ∨ m.high < 8 ∨ 12 < m.high then none else some (m.high - 8)
def Bk.Ok.write {m : Bk} (h : m.Ok) (a : Int) {x : Int} (hx : 0 ≤ x ∧ x < 256) : (writeB a x m).Ok := by
 have h1 := h.low; have h2 := h.high
 have L : ∀ v, 0 ≤ v ∧ v < 65536 → ({ m with low := v } : Bk).Ok := fun v hv => ⟨h.kind, h.banks, h.ram, hv, h.high, h.last⟩
 have Hh : ∀ v, 0 ≤ v ∧ v < 65536 → ({ m with high := v } : Bk).Ok := fun v hv => ⟨h.kind, h.banks, h.ram, h.low, hv, h.last⟩
 have O : ∀ b, ({ m with on := b } : Bk).Ok := fun b => ⟨h.kind, h.banks, h.ram, h.low, h.high, h.last⟩
 unfold writeB
 split
 ·unfold oneB; split; exact O _; split; exact L _ o_m; split; exact Hh _ o_m; exact ⟨h.kind, h.banks, h.ram, h.low, h.high, h.last⟩
 split
 ·unfold twoB; split; exact h; split; exact O _; exact L _ o_m
 split
 ·unfold threeB; split; exact O _; split; exact L _ o_m; split; exact Hh _ o_m; exact ⟨h.kind, h.banks, h.ram, h.low, h.high, hx⟩
 split
 ·unfold fiveB; split; exact O _; split; exact L _ o_m; split; exact L _ o_m; split; exact Hh _ o_m; exact h
 ·exact h
def aAy (a x : Int) (m : Bk) : (writeB a x m).kind = m.kind ∧ (writeB a x m).banks = m.banks ∧ (writeB a x m).ram = m.ram := by
 unfold writeB oneB twoB threeB fiveB
 repeat' split
 all_goals exact ⟨rfl, rfl, rfl⟩
def aO0 {m : Bk} (h : m.Ok) (a : Int) : 0 ≤ numB a m ∧ numB a m < 4194304 := by
 have h1 := h.low; have h2 := h.high
 unfold numB; repeat' split
 all_goals omega
def aD6 {m : Bk} (h : m.Ok) (a : Int) : 0 ≤ bankB a m ∧ bankB a m ≤ m.banks ∧ (0 < m.banks → bankB a m < m.banks) := by
 have h1 := h.banks; have h2 := aO0 h a
 unfold bankB
 split
 ·omega
 ·have h3 := eh (numB a m) (show m.banks ≠ 0 by omega)
  have h4 := eq (numB a m) (show 0 < m.banks by omega)
  omega
def aFp {m : Bk} (a : Int) {n : Int} (hn : atB_ a m = some n) : 0 ≤ n ∧ n < m.ram := by
 have key : ∀ x : Int, 0 < m.ram → 0 ≤ x % m.ram ∧ x % m.ram < m.ram := fun x hr => ⟨eh _ o_m, eq _ hr⟩
 unfold atB_ at hn
 split at hn
 ·cases hn
 ·rename_i hc
  have hr : 0 < m.ram := by omega
  repeat' split at hn
  all_goals first | cases hn; done | (cases hn; exact key _ hr)
structure Ck where
 s : Int
 m : Int
 h : Int
 day : Int
 sub : Int
 halt : Bool
 carry : Bool
 h0 : Int
 h1 : Int
 h2 : Int
 h3 : Int
 h4 : Int
deriving DecidableEq
def Ck.held (c : Ck) : AB := [c.h0, c.h1, c.h2, c.h3, c.h4]
def cCk (c : Ck) : AA := [.int .u8 c.s, .int .u8 c.m, .int .u8 c.h, .int .i64 c.day, .int .i64 c.sub, .bool c.halt, .bool c.carry, .int .u8 c.h0, .int .u8 c.h1, .int .u8 c.h2, .int .u8 c.h3, .int .u8 c.h4]
structure Ck.Fo (c : Ck) : Prop where
 s : 0 ≤ c.s ∧ c.s < 256
 m : 0 ≤ c.m ∧ c.m < 256
 h : 0 ≤ c.h ∧ c.h < 256
 day : -9223372036854775808 ≤ c.day ∧ c.day ≤ 9223372036854775807
 byH : aY c.held
structure Ck.Ok (c : Ck) : Prop extends Ck.Fo c where
 sub : 0 ≤ c.sub ∧ c.sub < 4294967296
def dayCk (c : Ck) : Ck := if IntKind.i64.wrap (c.day + 1) = 512 then { c with day := 0, carry := true } else { c with day := IntKind.i64.wrap (c.day + 1) }
def secCk (c : Ck) : Ck :=
 if (c.s + 1) % 64 ≠ 60 then { c with s := (c.s + 1) % 64 }
 else if (c.m + 1) % 64 ≠ 60 then { c with s := 0, m := (c.m + 1) % 64 }
 else if (c.h + 1) % 32 ≠ 24 then { c with s := 0, m := 0, h := (c.h + 1) % 32 }
 else dayCk { c with s := 0, m := 0, h := 0 }
def jD (c : Ck) : Nat → Ck
 | 0 => c
 | n + 1 => { secCk (jD c n) with sub := (jD c n).sub - 1048576 }
def tickCk (c : Ck) : Ck := if c.halt = true then c else jD { c with sub := c.sub + 1 } ((c.sub + 1) / 1048576).toNat
def gZ (b : Bool) (n : Int) : Int := if b = true then n else 0
def sR (c : Ck) : Ck := { c with h0 := c.s, h1 := c.m, h2 := c.h, h3 := c.day % 256, h4 := c.day / 256 % 2 + gZ c.halt 64 + gZ c.carry 128 }
def tB (n : Int) (c : Ck) : Int := if n < 0 ∨ 5 ≤ n then 0 else c.held.getD n.toNat 0
def writeCk (n x : Int) (c : Ck) : Ck :=
 if n = 0 then { c with s := x % 64, sub := 0 } else if n = 1 then { c with m := x % 64 } else if n = 2 then { c with h := x % 32 }
 else if n = 3 then { c with day := c.day / 256 * 256 + x } else if n = 4 then { c with day := c.day % 256 + x % 2 * 256, halt := decide (x / 64 % 2 = 1), carry := decide (x / 128 = 1) } else c
def aAa (n : Int) : IntKind.i64.wrap n = (n + 9223372036854775808) % 18446744073709551616 - 9223372036854775808 := by
 simp [IntKind.wrap, IntKind.bits, IntKind.signed]; omega
def aHu (x : Int) : -9223372036854775808 ≤ IntKind.i64.wrap x ∧ IntKind.i64.wrap x ≤ 9223372036854775807 := by
 have := aAa x
 omega
def Ck.Fo.day_ {c : Ck} (h : c.Fo) : (dayCk c).Fo := by
 unfold dayCk
 split
 ·exact ⟨h.s, h.m, h.h, y_D, h.byH⟩
 ·exact ⟨h.s, h.m, h.h, aHu _, h.byH⟩
def Ck.Fo.sec {c : Ck} (h : c.Fo) : (secCk c).Fo := by
 unfold secCk
 split
 ·exact ⟨y_D, h.m, h.h, h.day, h.byH⟩
 split
 ·exact ⟨y_D, y_D, h.h, h.day, h.byH⟩
 split
 ·exact ⟨y_D, y_D, y_D, h.day, h.byH⟩
 ·exact Ck.Fo.day_ ⟨y_D, y_D, y_D, h.day, h.byH⟩
def wZ (c : Ck) : ∀ n : Nat, (jD c n).sub = c.sub - 1048576 * n
 | 0 => by show c.sub = _; omega
 | n + 1 => by show (jD c n).sub - 1048576 = _; rw [wZ c n]; omega
def Ck.Fo.sub_ {c : Ck} (h : c.Fo) (x : Int) : ({ c with sub := x } : Ck).Fo := ⟨h.s, h.m, h.h, h.day, h.byH⟩
def Ck.Fo.secs {c : Ck} (h : c.Fo) : ∀ n : Nat, (jD c n).Fo
 | 0 => h
 | n + 1 => (Ck.Fo.sec (h.secs n)).sub_ _
def Ck.Ok.tick {c : Ck} (h : c.Ok) : (tickCk c).Ok := by
 have h2 := h.sub
 unfold tickCk
 split
 ·exact h
 ·refine ⟨(h.toFo.sub_ _).secs _, ?_⟩
  rw [wZ]
  dsimp only
  omega
def aFi (b : Bool) {n : Int} (h : 0 ≤ n) : 0 ≤ gZ b n ∧ gZ b n ≤ n := by unfold gZ; split <;> omega
def Ck.Ok.hold {c : Ck} (h : c.Ok) : (sR c).Ok := by
 have h1 := aFi c.halt (n := 64) y_b; have h2 := aFi c.carry (n := 128) y_b
 refine ⟨⟨h.s, h.m, h.h, h.day, fun x hx => ?_⟩, h.sub⟩
 have h3 := h.s; have h4 := h.m; have h5 := h.h
 simp only [sR, Ck.held, eu, fi, or_false] at hx
 rcases hx with rfl | rfl | rfl | rfl | rfl <;> omega
def Ck.Ok.write {c : Ck} (h : c.Ok) (n : Int) {x : Int} (hx : 0 ≤ x ∧ x < 256) : (writeCk n x c).Ok := by
 have h1 := h.day
 unfold writeCk
 split
 ·exact ⟨⟨y_D, h.m, h.h, h.day, h.byH⟩, y_D⟩
 split
 ·exact ⟨⟨h.s, y_D, h.h, h.day, h.byH⟩, h.sub⟩
 split
 ·exact ⟨⟨h.s, h.m, y_D, h.day, h.byH⟩, h.sub⟩
 split
 ·exact ⟨⟨h.s, h.m, h.h, y_D, h.byH⟩, h.sub⟩
 split
 ·exact ⟨⟨h.s, h.m, h.h, y_D, h.byH⟩, h.sub⟩
 ·exact h
def aJX {c : Ck} (h : c.Ok) (n : Int) : 0 ≤ tB n c ∧ tB n c < 256 := by
 unfold tB; split; omega; exact h.byH.get _
def Ck.Dy (c : Ck) : Prop := 0 ≤ c.day ∧ c.day < 512
def Ck.Dy.sec {c : Ck} (h : c.Dy) : (secCk c).Dy := by
 have h1 : IntKind.i64.wrap (c.day + 1) = c.day + 1 := aI (by have := h.1; omega) (by have := h.2; omega)
 have h2 := h.1; have h3 := h.2
 unfold secCk dayCk
 dsimp only
 repeat' split
 all_goals first | exact h | (unfold Ck.Dy; dsimp only; omega)
def Ck.Dy.secs {c : Ck} (h : c.Dy) : ∀ n : Nat, (jD c n).Dy
 | 0 => h
 | n + 1 => (h.secs n).sec
def Ck.Dy.tick {c : Ck} (h : c.Dy) : (tickCk c).Dy := by
 unfold tickCk; split
 ·exact h
 ·exact Ck.Dy.secs (c := { c with sub := c.sub + 1 }) h _
def Ck.Dy.write {c : Ck} (h : c.Dy) (n : Int) {x : Int} (hx : 0 ≤ x ∧ x < 256) : (writeCk n x c).Dy := by
 have h2 := h.1; have h3 := h.2
 unfold writeCk
 repeat' split
 all_goals first | exact h | (unfold Ck.Dy; dsimp only; omega)
structure Vc where
 on : Bool
 len : Int
 lev : Int
 wait : Int
deriving DecidableEq
def cVc (v : Vc) : AA := [.bool v.on, .int .i64 v.len, .int .i64 v.lev, .int .i64 v.wait]
def rV (v : Vc) : (cVc v).length = 4 := rfl
structure Vc.Ok (v : Vc) : Prop where
 len : 0 ≤ v.len ∧ v.len < 65536
 lev : 0 ≤ v.lev ∧ v.lev < 65536
 wait : 0 ≤ v.wait ∧ v.wait < 65536
def vcZ : Vc := ⟨false, 0, 0, 0⟩
structure Bd where
 regs : AB
 on : Bool
 div : Int
 step : Int
 vs : List Vc
 pitch : Int
 slide : Int
 slides : Bool
deriving DecidableEq
def cBd (b : Bd) : AA := b.regs.map (.int .u8) ++ ([.bool b.on, .int .i64 b.div, .int .i64 b.step] ++ (aE cVc b.vs ++ [.int .i64 b.pitch, .int .i64 b.slide, .bool b.slides]))
structure Bd.Wf (b : Bd) : Prop where
 lR : b.regs.length = 48
 bR : aY b.regs
 lV : b.vs.length = 4
 div : 0 ≤ b.div ∧ b.div < 65536
 step : 0 ≤ b.step ∧ b.step < 65536
 oV : ∀ v ∈ b.vs, v.Ok
 pitch : 0 ≤ b.pitch ∧ b.pitch < 65536
 slide : 0 ≤ b.slide ∧ b.slide < 65536
def bdZ : Bd := ⟨List.replicate 48 0, false, 0, 0, List.replicate 4 vcZ, 0, 0, false⟩
def Bd.r (b : Bd) (n : Nat) : Int := b.regs.getD n 0
def Bd.v (b : Bd) (n : Nat) : Vc := b.vs.getD n vcZ
def Bd.setV (b : Bd) (n : Nat) (x : Vc) : Bd := { b with vs := b.vs.set n x }
def longest (v : Nat) : Int := if v = 2 then 256 else 64
def readyB (v : Nat) (b : Bd) : Bool := if v = 2 then decide (b.r 10 / 128 = 1) else decide (8 ≤ b.r (5 * v + 2))
def everyB (b : Bd) : Int := b.r 0 / 16 % 8
def byB (b : Bd) : Int := b.r 0 % 8
def bN (b : Bd) : Bd := { b with slide := if everyB b = 0 then 8 else everyB b }
def fL (b : Bd) : Int := if b.r 0 / 8 % 2 = 1 then b.pitch - b.pitch / 2 ^ (byB b).toNat else b.pitch + b.pitch / 2 ^ (byB b).toNat
def nA (b : Bd) : Bool := decide (2047 < fL b)
def aId (b : Bd) : Bd := b.setV 0 { b.v 0 with on := false }
def kG (b : Bd) : Bd := if nA b = true then aId b else b
def lenV (b : Bd) (v : Nat) (x : Vc) : Vc := if b.r (5 * v + 4) / 64 % 2 = 0 ∨ x.len = 0 then x else { x with len := x.len - 1, on := x.on && decide (0 < x.len - 1) }
def levV (b : Bd) (v : Nat) (x : Vc) : Vc :=
 if v = 2 ∨ b.r (5 * v + 2) % 8 = 0 then x
 else if 0 < x.wait - 1 then { x with wait := x.wait - 1 }
 else { x with wait := b.r (5 * v + 2) % 8, lev := if b.r (5 * v + 2) / 8 % 2 = 1 then min (x.lev + 1) 15 else max (x.lev - 1) 0 }
def turnV (f : Bd → Nat → Vc → Vc) (b : Bd) : Nat → Bd
 | 0 => b
 | n + 1 => (turnV f b n).setV n (f (turnV f b n) n ((turnV f b n).v n))
def wA (b : Bd) : Bd := turnV lenV b 4
def pQ (b : Bd) : Bd := turnV levV b 4
def aBF (b : Bd) : Bd := { b with pitch := fL b, regs := (b.regs.set 3 (fL b % 256)).set 4 (b.r 4 / 8 * 8 + fL b / 256 % 8) }
def slideB (b : Bd) : Bd :=
 if b.slides = false then b
 else if 0 < b.slide - 1 then { b with slide := b.slide - 1 }
 else
  let c := bN { b with slide := b.slide - 1 }
  if everyB b = 0 then c else if nA c = true then aId c else if byB b = 0 then c else kG (aBF c)
def halfB (b : Bd) : Bd := if b.step % 2 = 0 then wA b else b
def beatB (b : Bd) : Bd := if b.step = 2 ∨ b.step = 6 then slideB (halfB b) else if b.step = 7 then pQ (halfB b) else halfB b
def tickB (b : Bd) : Bd :=
 if b.on = false then b else if b.div + 1 < 2048 then { b with div := b.div + 1 }
 else { beatB { b with div := 0 } with step := (b.step + 1) % 8 }
def sG : AB := [0x80, 0x3f, 0, 0xff, 0xbf, 0xff, 0x3f, 0, 0xff, 0xbf, 0x7f, 0xff, 0x9f, 0xff, 0xbf, 0xff, 0xff, 0, 0, 0xbf, 0, 0, 0x70]
def onV (b : Bd) : Nat → Int
 | 0 => 112 + (if b.on = true then 128 else 0)
 | n + 1 => onV b n + (if (b.v n).on = true then 2 ^ n else 0)
def readB (n : Int) (b : Bd) : Int :=
 if n < 0 ∨ 48 ≤ n ∨ (22 < n ∧ n < 32) then 255 else if 32 ≤ n then b.r n.toNat else if n < 22 then bor .u8 (b.r n.toNat) (sG.getD n.toNat 0) else onV b 4
def aO (b : Bd) (v : Nat) : Vc := ⟨readyB v b, if (b.v v).len = 0 then longest v else (b.v v).len, b.r (5 * v + 2) / 16, b.r (5 * v + 2) % 8⟩
def kK (b : Bd) : Bd := { b with slides := decide (everyB b ≠ 0 ∨ byB b ≠ 0) }
def beginB (v : Nat) (b : Bd) : Bd :=
 let c := b.setV v (aO b v)
 if 0 < v then c
 else
  let d := kK (bN { c with pitch := c.r 3 + c.r 4 % 8 * 256 })
  if byB b = 0 then d else kG d
def offB (b : Bd) : Bd := { bdZ with div := b.div, step := b.step, regs := List.replicate 22 0 ++ b.regs.drop 22 }
def onB (b : Bd) : Bd := if b.on = true then b else { b with div := 0, step := 0, on := true }
def putB (n : Nat) (x : Int) (b : Bd) : Bd := { b with regs := b.regs.set n x }
def voiceB (n : Nat) (x : Int) (b : Bd) : Bd :=
 if n % 5 = 1 then b.setV (n / 5) { b.v (n / 5) with len := longest (n / 5) - x % longest (n / 5) }
 else if n % 5 = 4 then (if x / 128 = 1 then beginB (n / 5) b else b)
 else b.setV (n / 5) { b.v (n / 5) with on := (b.v (n / 5)).on && readyB (n / 5) b }
def writeBd (n x : Int) (b : Bd) : Bd :=
 if n < 0 ∨ 48 ≤ n then b
 else if n = 22 then (if x / 128 = 1 then onB b else offB b)
 else if b.on = false ∧ n < 32 then b
 else if 20 ≤ n then putB n.toNat x b else voiceB n.toNat x (putB n.toNat x b)
section
variable {b : Bd}
def Bd.Wf.r_ (h : b.Wf) (n : Nat) : 0 ≤ b.r n ∧ b.r n < 256 := h.bR.get n
def aKY : vcZ.Ok := ⟨y_et, y_et, y_et⟩
def Bd.Wf.v_ (h : b.Wf) (n : Nat) : (b.v n).Ok := by
 unfold Bd.v
 by_cases hn : n < b.vs.length
 ·rw [Gd_, am hn]; exact h.oV _ (fh hn)
 ·rw [Gd_, da o_m]; exact aKY
def Bd.Wf.setV (h : b.Wf) (n : Nat) {x : Vc} (hx : x.Ok) : (b.setV n x).Wf := ⟨h.lR, h.bR, y_c2, h.div, h.step, fun v hv => by
 rcases ey hv with h1 | rfl
 ·exact h.oV v h1
 ·exact hx, h.pitch, h.slide⟩
def Bd.Wf.put (h : b.Wf) (n : Nat) {x : Int} (hx : 0 ≤ x ∧ x < 256) : (putB n x b).Wf := ⟨by show (b.regs.set n x).length = 48; rw [List.length_set]; exact h.lR, fun y hy => by
 rcases ey hy with h1 | rfl
 ·exact h.bR y h1
 ·exact hx, h.lV, h.div, h.step, h.oV, h.pitch, h.slide⟩
def Bd.Wf.slide_ (h : b.Wf) {x : Int} (hx : 0 ≤ x ∧ x < 65536) : ({ b with slide := x } : Bd).Wf := ⟨h.lR, h.bR, h.lV, h.div, h.step, h.oV, h.pitch, hx⟩
def Bd.Wf.pitch_ (h : b.Wf) {x : Int} (hx : 0 ≤ x ∧ x < 65536) : ({ b with pitch := x } : Bd).Wf := ⟨h.lR, h.bR, h.lV, h.div, h.step, h.oV, hx, h.slide⟩
def Bd.Wf.div_ (h : b.Wf) {x : Int} (hx : 0 ≤ x ∧ x < 65536) : ({ b with div := x } : Bd).Wf := ⟨h.lR, h.bR, h.lV, hx, h.step, h.oV, h.pitch, h.slide⟩
def Bd.Wf.step_ (h : b.Wf) {x : Int} (hx : 0 ≤ x ∧ x < 65536) : ({ b with step := x } : Bd).Wf := ⟨h.lR, h.bR, h.lV, h.div, hx, h.oV, h.pitch, h.slide⟩
def pP (b : Bd) : 0 ≤ everyB b ∧ everyB b < 8 := by unfold everyB; omega
def aIx (b : Bd) : 0 ≤ byB b ∧ byB b < 8 := by unfold byB; omega
def Bd.Wf.waitW (h : b.Wf) : (bN b).Wf := h.slide_ (by have := pP b; split <;> omega)
def aBG {x : Int} (h : 0 ≤ x) (n : Nat) : 0 ≤ x / 2 ^ n ∧ x / 2 ^ n ≤ x := by
 have h2 : (0 : Int) < 2 ^ n := fe y_b
 exact ⟨gw h o_m, gl _ h⟩
def aGs (h : b.Wf) : 0 ≤ fL b ∧ fL b < 131072 := by
 have h1 := h.pitch; have h2 := aBG h1.1 (byB b).toNat
 unfold fL; split <;> omega
def Bd.Wf.off0W (h : b.Wf) : (aId b).Wf := h.setV 0 ⟨(h.v_ 0).len, (h.v_ 0).lev, (h.v_ 0).wait⟩
def Bd.Wf.checkW (h : b.Wf) : (kG b).Wf := by unfold kG; split; exact h.off0W; exact h
def aGg (b : Bd) (v : Nat) {x : Vc} (h : x.Ok) : (lenV b v x).Ok := by
 have h1 := h.len
 unfold lenV; split
 ·exact h
 ·exact ⟨y_D, h.lev, h.wait⟩
def aG1 (b : Bd) (v : Nat) {x : Vc} (h : x.Ok) : (levV b v x).Ok := by
 have h1 := h.lev; have h2 := h.wait
 unfold levV; split
 ·exact h
 split
 ·exact ⟨h.len, h.lev, y_D⟩
 ·exact ⟨h.len, by dsimp only; split <;> omega, y_D⟩
def Bd.Wf.turn {f : Bd → Nat → Vc → Vc} (hf : ∀ b v x, Vc.Ok x → (f b v x).Ok) (h : b.Wf) : ∀ n, (turnV f b n).Wf
 | 0 => h
 | n + 1 => (h.turn hf n).setV n (hf _ _ _ ((h.turn hf n).v_ n))
def aGu (h : b.Wf) (hn : nA b = false) : (aBF b).Wf := by
 have h1 := aGs h; have h4 := h.r_ 4
 have h2 : fL b ≤ 2047 := by unfold nA at hn; have := df hn; omega
 have h3 : (putB 4 (b.r 4 / 8 * 8 + fL b / 256 % 8) (putB 3 (fL b % 256) b)).Wf := (h.put 3 o_m).put 4 o_m
 exact h3.pitch_ o_m
def Bd.Wf.slideW (h : b.Wf) : (slideB b).Wf := by
 have h1 := h.slide
 have hw : (bN { b with slide := b.slide - 1 }).Wf := by
  have := pP b
  exact ⟨h.lR, h.bR, h.lV, h.div, h.step, h.oV, h.pitch, y_cf⟩
 unfold slideB
 split
 ·exact h
 split
 ·exact h.slide_ o_m
 dsimp only
 split
 ·exact hw
 split
 ·exact hw.off0W
 split
 ·exact hw
 ·exact (aGu hw (by simpa using ‹¬ nA _ = true›)).checkW
def Bd.Wf.half (h : b.Wf) : (halfB b).Wf := by unfold halfB; split; exact h.turn aGg 4; exact h
def Bd.Wf.beat (h : b.Wf) : (beatB b).Wf := by
 unfold beatB; split; exact h.half.slideW; split; exact h.half.turn aG1 4; exact h.half
def Bd.Wf.tick (h : b.Wf) : (tickB b).Wf := by
 have h1 := h.div; have h2 := h.step
 unfold tickB
 split
 ·exact h
 split
 ·exact h.div_ o_m
 ·exact (h.div_ (x := 0) o_m).beat.step_ o_m
def zO (h : b.Wf) (v : Nat) : (aO b v).Ok := by
 have h1 := h.r_ (5 * v + 2)
 refine ⟨?_, ?_, ?_⟩
 ·unfold aO longest; dsimp only; split
  ·split <;> omega
  ·exact (h.v_ v).len
 ·show 0 ≤ b.r (5 * v + 2) / 16 ∧ b.r (5 * v + 2) / 16 < 65536; omega
 ·show 0 ≤ b.r (5 * v + 2) % 8 ∧ b.r (5 * v + 2) % 8 < 65536; omega
def Bd.Wf.slidesW (h : b.Wf) : (kK b).Wf := ⟨h.lR, h.bR, h.lV, h.div, h.step, h.oV, h.pitch, h.slide⟩
def Bd.Wf.beginW (h : b.Wf) (v : Nat) : (beginB v b).Wf := by
 have hc := h.setV v (zO h v)
 unfold beginB
 dsimp only
 split
 ·exact hc
 ·have h3 := hc.r_ 3
  have hd : (kK (bN { b.setV v (aO b v) with pitch := (b.setV v (aO b v)).r 3 + (b.setV v (aO b v)).r 4 % 8 * 256 })).Wf := (hc.pitch_ o_m).waitW.slidesW
  split
  ·exact hd
  ·exact hd.checkW
def bdZ_wf : bdZ.Wf := ⟨y_et, fun x hx => by rw [(List.mem_replicate.1 hx).2]; decide, y_et, y_et, y_et, fun v hv => by rw [(List.mem_replicate.1 hv).2]; exact aKY, y_et, y_et⟩
def Bd.Wf.off (h : b.Wf) : (offB b).Wf := ⟨by show (List.replicate 22 0 ++ b.regs.drop 22).length = 48; rw [La_, Ld_, h.lR, ca], fun x hx => by
 rcases List.mem_append.1 hx with h1 | h1
 ·rw [(List.mem_replicate.1 h1).2]; decide
 ·exact h.bR x (ef h1), bdZ_wf.lV, h.div, h.step, bdZ_wf.oV, bdZ_wf.pitch, bdZ_wf.slide⟩
def Bd.Wf.onW (h : b.Wf) : (onB b).Wf := by unfold onB; split; exact h; exact ⟨h.lR, h.bR, h.lV, (show (0 : Int) ≤ 0 ∧ (0 : Int) < 65536 by decide), (show (0 : Int) ≤ 0 ∧ (0 : Int) < 65536 by decide), h.oV, h.pitch, h.slide⟩
def Bd.Wf.voice (h : b.Wf) (n : Nat) (x : Int) : (voiceB n x b).Wf := by
 have hv := h.v_ (n / 5)
 unfold voiceB
 split
 ·refine h.setV _ ⟨?_, hv.lev, hv.wait⟩
  unfold longest; dsimp only; split <;> omega
 split
 ·split
  ·exact h.beginW _
  ·exact h
 ·exact h.setV _ ⟨hv.len, hv.lev, hv.wait⟩
def Bd.Wf.write (h : b.Wf) (n : Int) {x : Int} (hx : 0 ≤ x ∧ x < 256) : (writeBd n x b).Wf := by
 unfold writeBd
 split
 ·exact h
 split
 ·split; exact h.onW; exact h.off
 split
 ·exact h
 split
 ·exact h.put _ hx
 ·exact (h.put _ hx).voice _ _
def aKJ (b : Bd) : ∀ n : Nat, 112 ≤ onV b n ∧ onV b n ≤ 239 + 2 ^ n
 | 0 => by unfold onV; split <;> omega
 | n + 1 => by
  have h := aKJ b n
  have h2 : (0 : Int) < 2 ^ n := fe y_b
  have h3 : (2 : Int) ^ (n + 1) = 2 * 2 ^ n := by rw [Int.pow_succ, Int.mul_comm]
  unfold onV; rw [h3]; split <;> omega
def aL6 (h : b.Wf) (n : Int) : 0 ≤ readB n b ∧ readB n b < 256 := by
 unfold readB
 split; omega
 split; exact h.r_ _
 split; exact qC _ _
 have := aKJ b 4
 omega
end
def dD (x n : Int) : Int := x / 2 ^ n.toNat % 2
def hgt (c : Int) : Int := if dD c 2 = 1 then 16 else 8
def vAt (l : AB) (n : Int) : Int := if 0 ≤ n ∧ n < l.length ∧ n < 8192 then l.getD n.toNat 0 else 0
def lJ (l : AB) (tile x y : Int) : Int :=
 if tile < 0 ∨ 384 ≤ tile then 0 else dD (vAt l (16 * tile + 2 * (y % 8))) (7 - x % 8) + 2 * dD (vAt l (16 * tile + 2 * (y % 8) + 1)) (7 - x % 8)
def shd (p c : Int) : Int := p / 2 ^ (c % 4 * 2).toNat % 4
def aCk {n b : Int} (hb : 0 < b ∧ b ≤ 65536) : (IntKind.i64.wrap (n.tmod b + b)).tmod b = n % b := by
 have h1 : n.tmod b < b := Int.tmod_lt_of_pos n hb.1
 have h2 : -b < n.tmod b := by
  have := Int.lt_tmod_of_pos n hb.1
  omega
 rw [aI o_m o_m, Int.tmod_eq_emod_of_nonneg o_m]
 rw [Int.add_emod_right]
 by_cases h : 0 ≤ n
 ·rw [Int.tmod_eq_emod_of_nonneg h, Int.emod_emod_of_dvd _ (Int.dvd_refl b)]
 ·rw [Int.tmod_def]
  exact Int.sub_mul_emod_self_left n b (n.tdiv b)
def nT (x n : Int) : dD x n = 0 ∨ dD x n = 1 := by unfold dD; omega
def wO {l : AB} (h : aY l) (n : Int) : 0 ≤ vAt l n ∧ vAt l n < 256 := by
 unfold vAt; split
 ·exact h.get _
 ·omega
def aNt (y : Int) : aG .i64 y 7 = y % 8 := by
 have h : (BitVec.ofInt 64 y &&& BitVec.ofInt 64 7).toNat = (y % 18446744073709551616).toNat % 8 := by
  rw [fz]
  have h7 : (BitVec.ofInt 64 7).toNat = 2 ^ 3 - 1 := by decide
  rw [h7, dx, ep]
  rfl
 show IntKind.i64.wrap ((BitVec.ofInt 64 y &&& BitVec.ofInt 64 7).toNat : Int) = _
 rw [h, aI o_m o_m]
 omega
def aNR (x : Int) : IntKind.i64.wrap (7 - aG .i64 x 7) = 7 - x % 8 := by
 rw [aNt, aI o_m o_m]
def aQB (x : Int) : 0 ≤ IntKind.i64.wrap (7 - aG .i64 x 7) := by rw [aNR]; omega
def aAG {t : Int} (y : Int) (h : 0 ≤ t ∧ t < 384) : IntKind.i64.wrap (IntKind.i64.wrap (16 * t) + IntKind.i64.wrap (2 * aG .i64 y 7)) = 16 * t + 2 * (y % 8) := by
 rw [aNt, aI (n := 16 * t) o_m o_m, aI (n := 2 * (y % 8)) o_m o_m, aI o_m o_m]
def aN5 {t : Int} (y : Int) (h : 0 ≤ t ∧ t < 384) : 0 ≤ IntKind.i64.wrap (IntKind.i64.wrap (16 * t) + IntKind.i64.wrap (2 * aG .i64 y 7)) := by rw [aAG y h]; omega
def aDd {t : Int} (y : Int) (h : 0 ≤ t ∧ t < 384) : IntKind.i64.wrap (IntKind.i64.wrap (IntKind.i64.wrap (16 * t) + IntKind.i64.wrap (2 * aG .i64 y 7)) + 1) = 16 * t + 2 * (y % 8) + 1 := by
 rw [aAG y h, aI o_m o_m]
def aLe {t : Int} (y : Int) (h : 0 ≤ t ∧ t < 384) : 0 ≤ IntKind.i64.wrap (IntKind.i64.wrap (IntKind.i64.wrap (16 * t) + IntKind.i64.wrap (2 * aG .i64 y 7)) + 1) := by rw [aDd y h]; omega
def aEJ {b n : Int} (h1 : 0 ≤ b ∧ b < 256) (h2 : 0 ≤ n ∧ n < 8) : aG .u8 (shr .u8 b n) 1 = dD b n := by
 have key : ∀ m : Fin 8, ∀ c : Fin 256, aG .u8 (shr .u8 (c.val : Int) (m.val : Int)) 1 = dD (c.val : Int) (m.val : Int) := by decide +kernel
 have := key ⟨n.toNat, y_B⟩ ⟨b.toNat, y_B⟩
 simp only at this
 rwa [cu h1.1, cu h2.1] at this
def aLw {x y : Int} (hx : x = 0 ∨ x = 1) (hy : y = 0 ∨ y = 1) : bor .u8 x (shl .u8 y 1) = x + 2 * y := by
 rcases hx with rfl | rfl <;> rcases hy with rfl | rfl <;> decide
def aLf {l : AB} (hl : aY l) {t : Int} (x y : Int) (h : 0 ≤ t ∧ t < 384) :
  bor .u8 (aG .u8 (shr .u8 (vAt l (IntKind.i64.wrap (IntKind.i64.wrap (16 * t) + IntKind.i64.wrap (2 * aG .i64 y 7)))) (IntKind.i64.wrap (7 - aG .i64 x 7))) 1)
   (shl .u8 (aG .u8 (shr .u8 (vAt l (IntKind.i64.wrap (IntKind.i64.wrap (IntKind.i64.wrap (16 * t) + IntKind.i64.wrap (2 * aG .i64 y 7)) + 1))) (IntKind.i64.wrap (7 - aG .i64 x 7))) 1) 1) = lJ l t x y := by
 rw [aNR, aDd y h, aAG y h, aEJ (wO hl _) o_m, aEJ (wO hl _) o_m, aLw (nT _ _) (nT _ _)]
 rw [lJ, if_neg o_m]
def aQe {l : AB} {n : Int} (h : 0 ≤ n ∧ n < l.length ∧ n < 8192) : l.getD n.toNat 0 = vAt l n := by rw [vAt, if_pos h]
def aOU {l : AB} {n : Int} (h : ¬ (0 ≤ n ∧ n < l.length ∧ n < 8192)) : 0 = vAt l n := by rw [vAt, if_neg h]
def aMq {p c : Int} (hp : 0 ≤ p ∧ p < 256) (hc : 0 ≤ c ∧ c < 256) : aG .u8 (shr .u8 p (IntKind.u8.wrap (aG .u8 c 3 * 2))) 3 = shd p c := by
 have h1 : aG .u8 c 3 = c % 4 := by
  refine aW (p := fun c => aG .u8 c 3 = c % 4) ?_ hc.1 hc.2
  decide +kernel
 rw [h1, oU o_m o_m]
 have key : ∀ m : Fin 4, ∀ q : Fin 256, aG .u8 (shr .u8 (q.val : Int) ((m.val : Int) * 2)) 3 = (q.val : Int) / 2 ^ (2 * m.val) % 4 := by decide +kernel
 have := key ⟨(c % 4).toNat, y_B⟩ ⟨p.toNat, y_B⟩
 simp only at this
 rw [cu hp.1, cu o_m] at this
 rw [this, shd]
 congr 3
 omega
def aEt {l : AB} {t x y : Int} (h : t < 0 ∨ 384 ≤ t) : 0 = lJ l t x y := by rw [lJ, if_pos h]
def aE7 {c : Int} (hc : 0 ≤ c ∧ c < 256) {b : Bool} (h : (aG .u8 c 4 != 0) = b) : (bif b then (16 : Int) else 8) = hgt c := by
 subst h
 refine aW (p := fun c => (bif (aG .u8 c 4 != 0) then (16 : Int) else 8) = hgt c) ?_ hc.1 hc.2
 decide +kernel
def aCH (c : Int) : hgt c = 8 ∨ hgt c = 16 := by unfold hgt; split <;> simp
def oB (l : AB) (n : Int) (k : Nat) : Int := l.getD (4 * n.toNat + k) 0
def nX {l : AB} (h : aY l) (n : Int) (k : Nat) : 0 ≤ oB l n k ∧ oB l n k < 256 := h.get _
def nK (l : AB) (c y x0 tile how x line : Int) : Int :=
 if line < y ∨ y + hgt c ≤ line ∨ x < x0 ∨ x0 + 8 ≤ x then 0 else
 let row := if dD how 6 = 1 then hgt c - 1 - (line - y) else line - y
 let col := if dD how 5 = 1 then 7 - (x - x0) else x - x0
 lJ l (if hgt c = 16 then tile / 2 * 2 + row / 8 else tile) col row
def aI2 {c : Int} (hc : 0 ≤ c ∧ c < 256) : (aG .u8 c 64 != 0) = decide (dD c 6 = 1) := by
 refine aW (p := fun c => (aG .u8 c 64 != 0) = decide (dD c 6 = 1)) ?_ hc.1 hc.2
 decide +kernel
def aEg {c : Int} (hc : 0 ≤ c ∧ c < 256) : (aG .u8 c 32 != 0) = decide (dD c 5 = 1) := by
 refine aW (p := fun c => (aG .u8 c 32 != 0) = decide (dD c 5 = 1)) ?_ hc.1 hc.2
 decide +kernel
def aML {t r : Int} (ht : 0 ≤ t ∧ t < 256) (hr : 0 ≤ r ∧ r < 16) : bor .i64 (iO .i64 t 1) (shr .i64 r 3) = t / 2 * 2 + r / 8 := by
 have key : ∀ r : Fin 16, ∀ t : Fin 256, bor .i64 (iO .i64 (t.val : Int) 1) (shr .i64 (r.val : Int) 3) = (t.val : Int) / 2 * 2 + (r.val : Int) / 8 := by decide +kernel
 have := key ⟨r.toNat, y_B⟩ ⟨t.toNat, y_B⟩
 simp only at this
 rwa [cu ht.1, cu hr.1] at this
def kO {l : AB} {c y x0 tile how x line : Int} (hy : -16 ≤ y ∧ y ≤ 240) (hx : -8 ≤ x0 ∧ x0 ≤ 248) (ht : 0 ≤ tile ∧ tile < 256) (hh : 0 ≤ how ∧ how < 256)
  (h1 : y ≤ line ∧ line < IntKind.i64.wrap (y + hgt c)) (h2 : x0 ≤ x ∧ x < IntKind.i64.wrap (x0 + 8)) {bu bt bh : Bool}
  (hu : (aG .u8 how 64 != 0) = bu) (htn : (aG .u8 how 32 != 0) = bt) (hth : decide (hgt c > 8) = bh) :
  lJ l (bif bh then bor .i64 (iO .i64 tile 1) (shr .i64 (bif bu then IntKind.i64.wrap (IntKind.i64.wrap (hgt c - 1) - IntKind.i64.wrap (line - y)) else IntKind.i64.wrap (line - y)) 3) else tile)
   (bif bt then IntKind.i64.wrap (7 - IntKind.i64.wrap (x - x0)) else IntKind.i64.wrap (x - x0))
   (bif bu then IntKind.i64.wrap (IntKind.i64.wrap (hgt c - 1) - IntKind.i64.wrap (line - y)) else IntKind.i64.wrap (line - y)) = nK l c y x0 tile how x line := by
 have hg := aCH c
 rw [aI (n := y + hgt c) o_m o_m] at h1
 rw [aI (n := x0 + 8) o_m o_m] at h2
 rw [aI (n := line - y) o_m o_m, aI (n := hgt c - 1) o_m o_m, aI (n := hgt c - 1 - (line - y)) o_m o_m, aI (n := x - x0) o_m o_m,
  aI (n := 7 - (x - x0)) o_m o_m]
 rw [aI2 hh] at hu
 rw [aEg hh] at htn
 rw [nK, if_neg o_m]
 have hrow : (bif bu then hgt c - 1 - (line - y) else line - y) = (if dD how 6 = 1 then hgt c - 1 - (line - y) else line - y) := by
  subst hu; by_cases h : dD how 6 = 1 <;> simp [h]
 have hcol : (bif bt then 7 - (x - x0) else x - x0) = (if dD how 5 = 1 then 7 - (x - x0) else x - x0) := by
  subst htn; by_cases h : dD how 5 = 1 <;> simp [h]
 rw [hrow, hcol]
 have hr0 : 0 ≤ (if dD how 6 = 1 then hgt c - 1 - (line - y) else line - y) ∧ (if dD how 6 = 1 then hgt c - 1 - (line - y) else line - y) < 16 := by split <;> omega
 generalize (if dD how 6 = 1 then hgt c - 1 - (line - y) else line - y) = row at *
 rw [aML ht hr0]
 subst hth
 rcases hg with hg | hg <;> simp [hg]
def aBZ {l : AB} {c y x0 tile how x line : Int} (hy : -16 ≤ y ∧ y ≤ 240) (hx : -8 ≤ x0 ∧ x0 ≤ 248) (h : ¬ ((y ≤ line ∧ line < IntKind.i64.wrap (y + hgt c)) ∧ (x0 ≤ x ∧ x < IntKind.i64.wrap (x0 + 8)))) :
  0 = nK l c y x0 tile how x line := by
 have hg := aCH c
 rw [aI (n := y + hgt c) o_m o_m, aI (n := x0 + 8) o_m o_m] at h
 rw [nK, if_pos o_m]
def aMo {l : AB} {n : Int} (hn : 0 ≤ n ∧ n < 40) (h : 4 * n < (l.length : Int)) :
  aP [Value.int .u8 0, .int .u8 0, .int .u8 0, .int .u8 0] 0 ((((l.map U_).drop (4 * n).toNat).take (l.length - (4 * n).toNat)).take (min (l.length - (4 * n).toNat) 4)) =
   [.int .u8 (oB l n 0), .int .u8 (oB l n 1), .int .u8 (oB l n 2), .int .u8 (oB l n 3)] := by
 have e : (4 * n).toNat = 4 * n.toNat := by omega
 rw [e]
 generalize hm : n.toNat = m at *
 have hm2 : 4 * m < l.length := by omega
 have hd : ∀ k, (l.drop (4 * m)).getD k 0 = l.getD (4 * m + k) 0 := fun k => by simp [Gd_, db]
 unfold oB
 rw [hm, ← hd 0, ← hd 1, ← hd 2, ← hd 3]
 have hlen : (l.drop (4 * m)).length = l.length - 4 * m := by simp
 simp only [← f5, ← ik]
 rw [← hlen, cw (ax _)]
 match hq : l.drop (4 * m), hlen with
 | [], h0 => simp at h0; omega
 | [a], _ => rfl
 | [a, b], _ => rfl
 | [a, b, c], _ => rfl
 | a :: b :: c :: d :: r, _ =>
  have : min (a :: b :: c :: d :: r).length 4 = 4 := by simp
  rw [this]; rfl
def tV {l : AB} {n : Int} (hn : 0 ≤ n ∧ n < 40) (h : ¬ 4 * n < (l.length : Int)) (k : Nat) : 0 = oB l n k := by
 unfold oB
 rw [Gd_, da o_m]; rfl
def aJe {l : AB} (hl : aY l) (n : Int) : (Value.agg #[.int .i64 n, .int .i64 (IntKind.i64.wrap (IntKind.i64.wrap (oB l n 0) - 16)), .int .i64 (IntKind.i64.wrap (IntKind.i64.wrap (oB l n 1) - 8)), .int .i64 (IntKind.i64.wrap (oB l n 2)), .int .u8 (oB l n 3)]) =
  .agg #[.int .i64 n, .int .i64 (oB l n 0 - 16), .int .i64 (oB l n 1 - 8), .int .i64 (oB l n 2), .int .u8 (oB l n 3)] := by
 have h0 := nX hl n 0
 have h1 := nX hl n 1
 have h2 := nX hl n 2
 rw [aI (n := oB l n 0) o_m o_m, aI (n := oB l n 0 - 16) o_m o_m, aI (n := oB l n 1) o_m o_m, aI (n := oB l n 1 - 8) o_m o_m, aI (n := oB l n 2) o_m o_m]
def aHs {l : AB} {n : Int} (hn : 0 ≤ n ∧ n < 40) (h : ¬ 4 * n < (l.length : Int)) :
  [Value.int .u8 0, .int .u8 0, .int .u8 0, .int .u8 0] = [.int .u8 (oB l n 0), .int .u8 (oB l n 1), .int .u8 (oB l n 2), .int .u8 (oB l n 3)] := by
 rw [← tV hn h 0, ← tV hn h 1, ← tV hn h 2, ← tV hn h 3]
def aAV (oam : AB) (c line : Int) (n : Nat) : Bool := decide (oB oam n 0 - 16 ≤ line) && decide (line < oB oam n 0 - 16 + hgt c)
def eR (oam : AB) (c line : Int) (k : Nat) : AB := ((List.range k).filter (aAV oam c line)).map (fun n : Nat => (n : Int))
def nC (oam : AB) (c line : Int) : AB := (eR oam c line 40).take 10
def aIM (oam : AB) (c line : Int) (k : Nat) : (eR oam c line k).length ≤ k := by
 simp only [eR, Lm_]
 have := List.length_filter_le (aAV oam c line) (List.range k)
 simpa using this
def aJV {oam : AB} {c line : Int} {k : Nat} (h : aAV oam c line k = true) : eR oam c line (k + 1) = eR oam c line k ++ [(k : Int)] := by
 simp [eR, dq, List.filter_append, h]
def aMd {oam : AB} {c line : Int} {k : Nat} (h : aAV oam c line k = false) : eR oam c line (k + 1) = eR oam c line k := by
 simp [eR, dq, List.filter_append, h]
def aGQ {oam : AB} (ho : aY oam) {c line : Int} {n : Nat} {b : Bool} (h : (decide (oB oam n 0 - 16 ≤ line) && decide (line < IntKind.i64.wrap (oB oam n 0 - 16 + hgt c))) = b) : aAV oam c line n = b := by
 have h0 := nX ho n 0
 have hg := aCH c
 rw [aI o_m o_m] at h
 exact h
def aPD {oam : AB} {c line : Int} {k : Nat} {v : AH} {G : aB} (h : aAV oam c line k = true) (hv : Vec 3 1 v ((eR oam c line k).length + 1) ((eR oam c line k).map (.int .i64) ++ [.int .i64 k]) G) :
  Vec 3 1 v (eR oam c line (k + 1)).length ((eR oam c line (k + 1)).map (.int .i64)) G := by
 rw [aJV h]; simpa using hv
def aQV {oam : AB} {c line : Int} {k : Nat} {v : AH} {G : aB} (h : aAV oam c line k = false) (hv : Vec 3 1 v (eR oam c line k).length ((eR oam c line k).map (.int .i64)) G) :
  Vec 3 1 v (eR oam c line (k + 1)).length ((eR oam c line (k + 1)).map (.int .i64)) G := by
 rw [aMd h]; exact hv
def aLk (oam : AB) (c line : Int) : Vec 3 1 (.slice none 0 0) (eR oam c line 0).length ((eR oam c line 0).map (.int .i64)) [] := .nil
def xF (oam : AB) (c line : Int) : (nC oam c line).length = min (eR oam c line 40).length 10 := by rw [nC, Lt_, Nat.min_comm]
def aLB {α β : Type} (f : α → β) (l : List α) (r : List β) (n : Nat) (j : Nat) (v : β) (h : ((l.take n).map f)[j]? = some v) : (l.map f ++ r)[j]? = some v := by
 rw [ik, dz] at h
 split at h
 ·have hj : j < (l.map f).length := by
   rcases dh j (l.map f).length with h1 | h1
   ·exact h1
   ·rw [da h1] at h; cases h
  rw [dp hj]; exact h
 ·cases h
def aKn (cap : Nat) : cut1 0 0 cap = 0 := by simp [cut1]
def aLh {oam : AB} {c line : Int} (hm : (eR oam c line 40).length = 0) : Lst .i64 (nC oam c line) (.slice none 0 0) [] := by
 have : nC oam c line = [] := ci (by rw [xF]; omega)
 rw [this]; exact .nil
def aLU {oam : AB} {c line : Int} {n cap b : Nat} {xs sp : AA} (hm : (eR oam c line 40).length = n) (hx : (eR oam c line 40).map (Value.int .i64) = xs) (hle : n ≤ cap) :
  Lst .i64 (nC oam c line) (.slice (some ⟨b, cut1 0 0 cap, none⟩) (min n 10 - 0) (cap - 0)) [(b, blk (xs ++ sp) 3)] := by
 rw [aKn]
 refine Lst.of_row (by rw [xF]; omega) (by rw [xF]; omega) (fun j v hv => ?_)
 subst hx
 exact aLB _ _ _ _ j v hv
structure Vw where
 c : Int
 sx : Int
 sy : Int
 wx : Int
 wy : Int
def cV (v : Vw) : AA := [.int .u8 v.c, .int .u8 v.sx, .int .u8 v.sy, .int .u8 v.wx, .int .u8 v.wy]
structure Vw.Ok (v : Vw) : Prop where
 c : 0 ≤ v.c ∧ v.c < 256
 sx : 0 ≤ v.sx ∧ v.sx < 256
 sy : 0 ≤ v.sy ∧ v.sy < 256
 wx : 0 ≤ v.wx ∧ v.wx < 256
 wy : 0 ≤ v.wy ∧ v.wy < 256
def uO (c b : Int) : Int := if dD c 4 = 1 then b else if 127 < b then b else 256 + b
def tX (l : AB) (c n px py : Int) : Int := lJ l (uO c (vAt l ((if dD c n = 1 then 7168 else 6144) + 32 * (py / 8) + px / 8))) px py
def aDM (l : AB) (v : Vw) (x y : Int) : Int := tX l v.c 3 ((x + v.sx) % 256) ((y + v.sy) % 256)
def aHf (l : AB) (v : Vw) (x y : Int) : Int := tX l v.c 6 (x % 256) (y % 256)
def jL (v : Vw) (line : Int) : Bool := decide (dD v.c 0 = 1) && (decide (dD v.c 5 = 1) && (decide (v.wy ≤ line) && decide (v.wx ≤ 166)))
def lZ (l : AB) (v : Vw) (line own : Int) (x : Nat) : Int :=
 if dD v.c 0 = 1 then (if jL v line = true ∧ 0 ≤ (x : Int) + 7 - v.wx then aHf l v ((x : Int) + 7 - v.wx) own else aDM l v x line) else 0
def uD (l : AB) (v : Vw) (line own : Int) : AB := (List.range 160).map (lZ l v line own)
def tLine_len (l : AB) (v : Vw) (line own : Int) : (uD l v line own).length = 160 := by simp [uD]
def aHY (l : AB) (v : Vw) (line own : Int) : (uD l v line own).map U_ = kU .u8 (lZ l v line own) 160 160 := by simp [uD, aFD, List.map_map, Function.comp_def]
def aRW (l : AB) (t x y : Int) : 0 ≤ lJ l t x y ∧ lJ l t x y < 4 := by
 unfold lJ
 have h1 := nT (vAt l (16 * t + 2 * (y % 8))) (7 - x % 8)
 have h2 := nT (vAt l (16 * t + 2 * (y % 8) + 1)) (7 - x % 8)
 split <;> omega
def aJ8 (l : AB) (v : Vw) (line own : Int) (x : Nat) : 0 ≤ lZ l v line own x ∧ lZ l v line own x < 4 := by
 unfold lZ aHf aDM tX
 split
 ·split <;> exact aRW _ _ _ _
 ·omega
def tLine_byts (l : AB) (v : Vw) (line own : Int) : aY (uD l v line own) := fun x hx => by
 obtain ⟨k, _, rfl⟩ := List.mem_map.1 hx
 have := aJ8 l v line own k
 omega
def aEa {c : Int} (hc : 0 ≤ c ∧ c < 256) : (aG .u8 c 1 == 0) = decide (dD c 0 = 0) :=
 aW (p := fun c => (aG .u8 c 1 == 0) = decide (dD c 0 = 0)) y_F hc.1 hc.2
def aRA {c : Int} (hc : 0 ≤ c ∧ c < 256) : (aG .u8 c 8 != 0) = decide (dD c 3 = 1) :=
 aW (p := fun c => (aG .u8 c 8 != 0) = decide (dD c 3 = 1)) y_F hc.1 hc.2
def aKf {c : Int} (hc : 0 ≤ c ∧ c < 256) : (aG .u8 c 16 != 0) = decide (dD c 4 = 1) :=
 aW (p := fun c => (aG .u8 c 16 != 0) = decide (dD c 4 = 1)) y_F hc.1 hc.2
def aK9 {b : Int} (hb : 0 ≤ b ∧ b < 256) : IntKind.i64.wrap (256 + IntKind.i64.wrap (IntKind.i8.wrap b)) = if 127 < b then b else 256 + b :=
 aW (p := fun b => IntKind.i64.wrap (256 + IntKind.i64.wrap (IntKind.i8.wrap b)) = if 127 < b then b else 256 + b) y_F hb.1 hb.2
def aLv {c b : Int} (h : dD c 4 = 1) : uO c b = b := by unfold uO; rw [if_pos h]
def aNT {c b : Int} (h : ¬ dD c 4 = 1) : uO c b = if 127 < b then b else 256 + b := by unfold uO; rw [if_neg h]
def aOy {l : AB} {v : Vw} {line own : Int} (x : Nat) (h : dD v.c 0 = 0) : lZ l v line own x = 0 := by unfold lZ; rw [if_neg o_m]
def aOK {l : AB} {v : Vw} {line own : Int} {x : Nat} (h : dD v.c 0 = 1) (hs : jL v line = true) (hx : 0 ≤ (x : Int) + 7 - v.wx) : aHf l v ((x : Int) + 7 - v.wx) own = lZ l v line own x := by
 unfold lZ; rw [if_pos h, if_pos ⟨hs, hx⟩]
def aEn {l : AB} {v : Vw} {line own : Int} {x : Nat} (h : dD v.c 0 = 1) (hs : ¬ (jL v line = true ∧ 0 ≤ (x : Int) + 7 - v.wx)) : aDM l v x line = lZ l v line own x := by
 unfold lZ; rw [if_pos h, if_neg hs]
def aI8 {l : AB} {v : Vw} {line own : Int} (h : dD v.c 0 = 0) : uD l v line own = List.replicate 160 0 := by
 refine List.eq_replicate_iff.2 ⟨tLine_len _ _ _ _, fun x hx => ?_⟩
 obtain ⟨k, _, rfl⟩ := List.mem_map.1 hx
 exact aOy _ h
def aJF {v : Vw} {line : Int} (h : dD v.c 0 = 0) : jL v line = false := by unfold jL; rw [h]; rfl
def aNV {c b : Int} (hc : 0 ≤ c ∧ c < 256) (hb : 0 ≤ b ∧ b < 256) (h : (aG .u8 c 16 != 0) = true) : IntKind.i64.wrap b = uO c b := by
 rw [aKf hc] at h
 rw [aI o_m o_m, aLv (by simpa using h)]
def aQ2 {c b : Int} (hc : 0 ≤ c ∧ c < 256) (hb : 0 ≤ b ∧ b < 256) (h : (aG .u8 c 16 != 0) = false) : IntKind.i64.wrap (256 + IntKind.i64.wrap (IntKind.i8.wrap b)) = uO c b := by
 rw [aKf hc] at h
 rw [aK9 hb, aNT (by simpa using h)]
def aJM {l : AB} {c n px py : Int} (h : dD c n = 1) : tX l c n px py = lJ l (uO c (vAt l (7168 + 32 * (py / 8) + px / 8))) px py := by unfold tX; rw [if_pos h]
def aLA {l : AB} {c n px py : Int} (h : ¬ dD c n = 1) : tX l c n px py = lJ l (uO c (vAt l (6144 + 32 * (py / 8) + px / 8))) px py := by unfold tX; rw [if_neg h]
def tT {x : Int} (h : 0 ≤ x ∧ x < 256) : IntKind.u8.wrap (x.tdiv 8) = x / 8 := by
 rw [il h.1, oU o_m o_m]
def aBK (x : Int) : 0 ≤ x % 256 ∧ x % 256 < 256 := by omega
def aRt {v : Vw} {line : Int} (hv : v.Ok) (h : (aG .u8 v.c 32 != 0) = false) : false = jL v line := by
 rw [aEg hv.c] at h
 unfold jL; rw [h]; simp
def aRK {v : Vw} {line : Int} (h : decide (v.wy ≤ line) = false) : false = jL v line := by
 unfold jL; rw [h]; simp
def aQQ {v : Vw} {line : Int} (hv : v.Ok) (h0 : (aG .u8 v.c 1 == 0) = false) (h : (aG .u8 v.c 32 != 0) = true) (h2 : decide (v.wy ≤ line) = true) : decide (v.wx ≤ 166) = jL v line := by
 rw [aEg hv.c] at h
 rw [aEa hv.c] at h0
 have h1 : dD v.c 0 = 1 := by have := nT v.c 0; simp at h0; omega
 unfold jL; rw [h, h2, h1]; simp
def aPB {c : Int} (hc : 0 ≤ c ∧ c < 256) (h0 : (aG .u8 c 1 == 0) = false) : dD c 0 = 1 := by
 rw [aEa hc] at h0
 have := nT c 0
 simp at h0; omega
def aE4 {c : Int} (hc : 0 ≤ c ∧ c < 256) (h0 : (aG .u8 c 1 == 0) = true) : dD c 0 = 0 := by
 rw [aEa hc] at h0; simpa using h0
structure Sp where
 n : Int
 y : Int
 x : Int
 t : Int
 h : Int
def spc (s : Sp) : AA := [.int .i64 s.n, .int .i64 s.y, .int .i64 s.x, .int .i64 s.t, .int .u8 s.h]
def iW (s : Sp) : (spc s).length = 5 := rfl
def sp (oam : AB) (n : Int) : Sp := ⟨n, oB oam n 0 - 16, oB oam n 1 - 8, oB oam n 2, oB oam n 3⟩
def cmpI (a b : Int) : Int := if a < b then -1 else if b < a then 1 else 0
def aGm (a b : Int) : decide (cmpI a b < 0) = decide (a < b) := by
 unfold cmpI; split
 ·simp_all
 ·split <;> simp_all
def iJ (e : Sp) : List Sp → List Sp → List Sp
 | [], B => e :: B
 | a :: ra, B => if e.x < a.x then iJ e ra (a :: B) else (a :: ra).reverse ++ e :: B
def eM (l : List Sp) : List Sp := l.foldl (fun S e => iJ e S.reverse []) []
def aKF (e a : Sp) (A B : List Sp) (h : e.x < a.x) : iJ e (A ++ [a]).reverse B = iJ e A.reverse (a :: B) := by simp [iJ, h]
def aIP (e a : Sp) (A B : List Sp) (h : ¬ e.x < a.x) : iJ e (A ++ [a]).reverse B = (A ++ [a]) ++ e :: B := by simp [iJ, h]
def aM0 (e : Sp) (ra B : List Sp) : (iJ e ra B).length = ra.length + 1 + B.length := by
 induction ra generalizing B with
 | nil => simp [iJ]; omega
 | cons a ra ih =>
  simp only [iJ]
  split
  ·rw [ih]; simp; omega
  ·simp; omega
def aG8 (l : List Sp) (e : Sp) : eM (l ++ [e]) = iJ e (eM l).reverse [] := by simp [eM]
def aC9 (l : List Sp) : (eM l).length = l.length := by
 suffices h : ∀ (l S : List Sp), (l.foldl (fun S e => iJ e S.reverse []) S).length = S.length + l.length by simpa [eM] using h l []
 intro l
 induction l with
 | nil => simp
 | cons a l ih => intro S; rw [f6, ih, aM0]; simp; omega
def aKv (l : List Sp) : eM (l.take 1) ++ l.drop 1 = l := by
 cases l with
 | nil => rfl
 | cons a l => simp [eM, iJ]
def aHi {l : List Sp} {i : Nat} (hi : i < l.length) : eM (l.take (i + 1)) = iJ l[i] (eM (l.take i)).reverse [] := by
 rw [ea hi, aG8]
def aHM (e : Sp) (ra B : List Sp) : ∃ A M, ra.reverse = A ++ M ∧ iJ e ra B = A ++ e :: (M ++ B) ∧ (∀ b ∈ M, e.x < b.x) ∧ (A = [] ∨ ∃ A' a, A = A' ++ [a] ∧ ¬ e.x < a.x) := by
 induction ra generalizing B with
 | nil => exact ⟨[], [], rfl, rfl, y_eu, .inl rfl⟩
 | cons a ra ih =>
  by_cases h : e.x < a.x
  ·obtain ⟨A, M, h1, h2, h3, h4⟩ := ih (a :: B)
   refine ⟨A, M ++ [a], by rw [List.reverse_cons, h1, As_], by simp only [iJ, if_pos h, h2]; simp, ?_, h4⟩
   intro b hb
   rcases List.mem_append.1 hb with hb | hb
   ·exact h3 b hb
   ·simp only [ga] at hb; subst hb; exact h
  ·exact ⟨(a :: ra).reverse, [], y_eu, by simp [iJ, h], y_eu, .inr ⟨ra.reverse, a, y_eu, h⟩⟩
def aJU {l : List Sp} {i : Nat} (h : l.length ≤ i) : eM (l.take i) ++ l.drop i = eM l := by
 rw [cw h, gf h, bq]
def aE9 {e : Sp} {A B R S : List Sp} (h : A = [] ∨ ∃ A' x, A = A' ++ [x] ∧ ¬ e.x < x.x) (hI : iJ e A.reverse B = iJ e S.reverse []) : A ++ e :: (B ++ R) = iJ e S.reverse [] ++ R := by
 rw [← hI]
 rcases h with rfl | ⟨A', x, rfl, hx⟩
 ·simp [iJ]
 ·rw [aIP e x A' B hx]; simp
def sM (s : Sp) : Prop := (-16 ≤ s.y ∧ s.y ≤ 240) ∧ (-8 ≤ s.x ∧ s.x ≤ 248) ∧ (0 ≤ s.t ∧ s.t < 256) ∧ (0 ≤ s.h ∧ s.h < 256)
def aR4 {oam : AB} (ho : aY oam) (n : Int) : sM (sp oam n) := by
 have h0 := nX ho n 0
 have h1 := nX ho n 1
 have h2 := nX ho n 2
 have h3 := nX ho n 3
 unfold sM sp
 simp only
 omega
def hit (l : AB) (c x line : Int) (s : Sp) : Bool := nK l c s.y s.x s.t s.h x line != 0
def pG (l : AB) (c bk f s2 x line below : Int) : Option Sp → Int
 | none => shd bk below
 | some s => if dD s.h 7 = 1 ∧ below % 4 ≠ 0 then shd bk below else if dD s.h 4 = 1 then shd s2 (nK l c s.y s.x s.t s.h x line) else shd f (nK l c s.y s.x s.t s.h x line)
def aDx {q : Sp → Bool} {l : List Sp} {k : Nat} {s : Sp} (h : (l.take k).find? q = none) (hs : l[k]? = some s) (hq : q s = true) : l.find? q = some s := by
 obtain ⟨hk, he⟩ := List.getElem?_eq_some_iff.1 hs
 rw [sK hk, List.find?_append, h, he]
 simp [hq]
def aOu {q : Sp → Bool} {l : List Sp} {k : Nat} {s : Sp} (h : (l.take k).find? q = none) (hs : l[k]? = some s) (hq : q s = false) : (l.take (k + 1)).find? q = none := by
 obtain ⟨hk, he⟩ := List.getElem?_eq_some_iff.1 hs
 rw [ea hk, List.find?_append, h, he]
 simp [hq]
def aC6 {h : Int} (hh : 0 ≤ h ∧ h < 256) : (aG .u8 h 128 != 0) = decide (dD h 7 = 1) := by
 refine aW (p := fun c => (aG .u8 c 128 != 0) = decide (dD c 7 = 1)) ?_ hh.1 hh.2
 decide +kernel
def aK3 {h : Int} (hh : 0 ≤ h ∧ h < 256) : (aG .u8 h 16 != 0) = decide (dD h 4 = 1) := by
 refine aW (p := fun c => (aG .u8 c 16 != 0) = decide (dD c 4 = 1)) ?_ hh.1 hh.2
 decide +kernel
def aNO {h : Int} (hh : 0 ≤ h ∧ h < 256) : (aG .u8 h 3 != 0) = decide (h % 4 ≠ 0) := by
 refine aW (p := fun c => (aG .u8 c 3 != 0) = decide (c % 4 ≠ 0)) ?_ hh.1 hh.2
 decide +kernel
def uB (l : AB) (c y x0 t h X L : Int) : 0 ≤ nK l c y x0 t h X L ∧ nK l c y x0 t h X L < 256 := by
 unfold nK
 split
 ·omega
 ·have h4 : ∀ a b d, 0 ≤ lJ l a b d ∧ lJ l a b d < 4 := fun a b d => by
   unfold lJ
   split
   ·omega
   ·have := nT (vAt l (16 * a + 2 * (d % 8))) (7 - b % 8)
    have := nT (vAt l (16 * a + 2 * (d % 8) + 1)) (7 - b % 8)
    omega
  have := h4 (if hgt c = 16 then t / 2 * 2 + (if dD h 6 = 1 then hgt c - 1 - (L - y) else L - y) / 8 else t) (if dD h 5 = 1 then 7 - (X - x0) else X - x0) (if dD h 6 = 1 then hgt c - 1 - (L - y) else L - y)
  show 0 ≤ lJ _ _ _ _ ∧ lJ _ _ _ _ < 256
  omega
def aI1 {l : AB} {c bk f s2 x line below : Int} {L : List Sp} {s : Sp} {k : Nat} (hs : L[k]? = some s) (ho : sM s) (hb : 0 ≤ below ∧ below < 256) (hn : (L.take k).find? (hit l c x line) = none) (h0 : (nK l c s.y s.x s.t s.h x line == 0) = false)
  (h1 : (aG .u8 s.h 128 != 0) = true) (h2 : (aG .u8 below 3 != 0) = true) : shd bk below = pG l c bk f s2 x line below (L.find? (hit l c x line)) := by
 rw [aDx hn hs (by simp [hit, bne, h0])]
 rw [aC6 ho.2.2.2, decide_eq_true_eq] at h1
 rw [aNO hb, decide_eq_true_eq] at h2
 simp [pG, h1, h2]
def rP {l : AB} {c bk f s2 x line below : Int} {L : List Sp} {s : Sp} {k : Nat} {b4 : Bool} (hs : L[k]? = some s) (ho : sM s) (hb : 0 ≤ below ∧ below < 256) (hn : (L.take k).find? (hit l c x line) = none) (h0 : (nK l c s.y s.x s.t s.h x line == 0) = false)
  (h1 : (aG .u8 s.h 128 != 0) = false ∨ (aG .u8 below 3 != 0) = false) (h4 : (aG .u8 s.h 16 != 0) = b4) :
  (bif b4 then shd s2 (nK l c s.y s.x s.t s.h x line) else shd f (nK l c s.y s.x s.t s.h x line)) = pG l c bk f s2 x line below (L.find? (hit l c x line)) := by
 rw [aDx hn hs (by simp [hit, bne, h0])]
 rw [aC6 ho.2.2.2, decide_eq_false_iff_not, aNO hb, decide_eq_false_iff_not] at h1
 rw [aK3 ho.2.2.2] at h4
 have : ¬ (dD s.h 7 = 1 ∧ below % 4 ≠ 0) := by rcases h1 with h1 | h1 <;> simp_all
 simp only [pG, if_neg this]
 subst h4
 by_cases h : dD s.h 4 = 1 <;> simp [h]
def aIv {l : AB} {c bk f s2 x line below : Int} {L : List Sp} {k : Nat} (hk : L.length ≤ k) (hn : (L.take k).find? (hit l c x line) = none) : shd bk below = pG l c bk f s2 x line below (L.find? (hit l c x line)) := by
 rw [cw hk] at hn
 rw [hn]; rfl
def aH5 {oam : AB} {c line : Int} : ∀ n ∈ nC oam c line, 0 ≤ n ∧ n < 40 := by
 intro n hn
 have := du hn
 simp only [eR, gu, List.mem_filter, fq] at this
 obtain ⟨m, ⟨h1, _⟩, rfl⟩ := this
 omega
def aEZ (oam : AB) (c line : Int) : (nC oam c line).length ≤ 10 := by rw [xF]; omega
def iY (oam : AB) (c line : Int) : List Sp := if dD c 1 = 1 then (nC oam c line).map (sp oam) else []
def aNB {h : Int} (hh : 0 ≤ h ∧ h < 256) : (aG .u8 h 2 != 0) = decide (dD h 1 = 1) := by
 refine aW (p := fun c => (aG .u8 c 2 != 0) = decide (dD c 1 = 1)) ?_ hh.1 hh.2
 decide +kernel
def aJm {oam : AB} {c line : Int} (hc : 0 ≤ c ∧ c < 256) (h : (aG .u8 c 2 != 0) = true) : iY oam c line = (nC oam c line).map (sp oam) := by
 rw [aNB hc, decide_eq_true_eq] at h; rw [iY, if_pos h]
def aMz {oam : AB} {c line : Int} (hc : 0 ≤ c ∧ c < 256) (h : (aG .u8 c 2 != 0) = false) : iY oam c line = [] := by
 rw [aNB hc, decide_eq_false_iff_not] at h; rw [iY, if_neg h]
def aCL (oam : AB) (c line : Int) : (iY oam c line).length ≤ 10 := by
 unfold iY; split
 ·rw [Lm_]; exact aEZ _ _ _
 ·simp
def aL3 {oam : AB} (ho : aY oam) (c line : Int) : ∀ s ∈ eM (iY oam c line), sM s := by
 have key : ∀ l : List Sp, (∀ s ∈ l, sM s) → ∀ s ∈ eM l, sM s := by
  intro l
  suffices h : ∀ (l S : List Sp), (∀ s ∈ S, sM s) → (∀ s ∈ l, sM s) → ∀ s ∈ l.foldl (fun S e => iJ e S.reverse []) S, sM s from h l [] y_v
  intro l
  induction l with
  | nil => exact fun S hS _ => hS
  | cons a l ih =>
   intro S hS hl
   refine ih _ ?_ (fun s hs => hl s (by simp [hs]))
   obtain ⟨A, M, h1, h2, _, _⟩ := aHM a S.reverse []
   simp only [h2]
   rw [List.reverse_reverse] at h1
   intro s hs
   simp only [bq, gq, eu] at hs
   rcases hs with hs | rfl | hs
   ·exact hS s (by rw [h1]; simp [hs])
   ·exact hl s y_v
   ·exact hS s (by rw [h1]; simp [hs])
 refine key _ ?_
 unfold iY; split
 ·intro s hs
  obtain ⟨n, _, rfl⟩ := List.mem_map.1 hs
  exact aR4 ho n
 ·simp
def aKX {oam : AB} {l : AB} {k : Nat} (hk : k < l.length) : aE spc ((l.take (k + 1)).map (sp oam)) = aE spc ((l.take k).map (sp oam)) ++ spc (sp oam (l.getD k 0)) := by
 rw [ea hk, aw, be, ct, jM, Gd_, am hk]; rfl
def uC (l oam : AB) (c bk f s2 line : Int) (bl : AB) (i : Nat) : Int := pG l c bk f s2 i line (bl.getD i 0) ((eM (iY oam c line)).find? (hit l c i line))
def aHA (l oam : AB) (c bk f s2 line : Int) (bl : AB) : AA := (List.range 160).map (fun i => Value.int .u8 (uC l oam c bk f s2 line bl i))
def aM8 {l : AB} {k : Nat} (h : k < l.length) : l.getD k 0 ∈ l := by
 rw [Gd_, am h]; exact fh h
structure PU where
 V : AB
 O : AB
 R : AB
 line : Int
 dot : Int
 own : Int
 frames : Int
 sig : Bool
 P : AB
def cU (u : PU) : AA := u.V.map (.int .u8) ++ (u.O.map (.int .u8) ++ (u.R.map (.int .u8) ++ ([.int .i64 u.line, .int .i64 u.dot, .int .i64 u.own, .int .i64 u.frames, .bool u.sig] ++ u.P.map (.int .u8))))
abbrev PU.r (u : PU) (j : Nat) : Int := u.R.getD j 0
structure PU.Wf (u : PU) : Prop where
 lV : u.V.length = 8192
 lO : u.O.length = 160
 lR : u.R.length = 12
 lP : u.P.length = 23040
 bV : aY u.V
 bO : aY u.O
 bR : aY u.R
 bP : aY u.P
 line : 0 ≤ u.line ∧ u.line ≤ 154
 dot : 0 ≤ u.dot ∧ u.dot ≤ 114
 own : 0 ≤ u.own ∧ u.own ≤ 600
 frames : 0 ≤ u.frames ∧ u.frames < 65536
 how : aG .u8 (u.R.getD 1 0) 120 = u.R.getD 1 0
structure PU.Ok (u : PU) : Prop where
 wf : u.Wf
 line : u.line < 154
 dot : u.dot < 114
 own : u.own ≤ 255 + u.line + (if 63 ≤ u.dot then 1 else 0)
def cU_len {u : PU} (h : u.Wf) : (cU u).length = 31409 := by
 simp [cU, h.lV, h.lO, h.lR, h.lP]
section
variable {u : PU}
def aSJ (h : u.Wf) {j : Nat} (hj : j < 8192) : (cU u)[j]? = some (.int .u8 (u.V.getD j 0)) := eG (dL (by rw [h.lV]; exact hj))
def aSW (h : u.Wf) {j : Nat} (hj : j < 160) : (cU u)[8192 + j]? = some (.int .u8 (u.O.getD j 0)) :=
 cH (n := j) y_da (eG (dL (by rw [h.lO]; exact hj)))
def oM (h : u.Wf) {j : Nat} (hj : j < 12) : (cU u)[8352 + j]? = some (.int .u8 (u.R.getD j 0)) :=
 cH (n := 160 + j) y_cC (cH (n := j) (by rw [Lm_, h.lO]) (eG (dL y_c9)))
def vR (h : u.Wf) {j : Nat} {v : AH} (hv : ([.int .i64 u.line, .int .i64 u.dot, .int .i64 u.own, .int .i64 u.frames, .bool u.sig] : AA)[j]? = some v) : (cU u)[8364 + j]? = some v :=
 cH (n := 172 + j) y_cC (cH (n := 12 + j) (by rw [Lm_, h.lO]; omega) (cH (n := j) y_db (eG hv)))
def cU_line (h : u.Wf) : (cU u)[8364]? = some (.int .i64 u.line) := vR h (j := 0) rfl
def cU_dot (h : u.Wf) : (cU u)[8365]? = some (.int .i64 u.dot) := vR h (j := 1) rfl
def aBV (h : u.Wf) : (cU u)[8366]? = some (.int .i64 u.own) := vR h (j := 2) rfl
def yG (h : u.Wf) : (cU u)[8367]? = some (.int .i64 u.frames) := vR h (j := 3) rfl
def cU_sig (h : u.Wf) : (cU u)[8368]? = some (.bool u.sig) := vR h (j := 4) rfl
def rowV {w : AI} {b : Nat} (hr : Row w b 0 (cU u)) : Row w b 0 (u.V.map (.int .u8)) := hr.left
def rowO (h : u.Wf) {w : AI} {b : Nat} (hr : Row w b 0 (cU u)) : Row w b 8192 (u.O.map (.int .u8)) :=
 (hr.right (n := 8192) y_da).left
def aSR (h : u.Wf) {w : AI} {b : Nat} (hr : Row w b 0 (cU u)) : Row w b 8352 (u.R.map (.int .u8)) :=
 ((hr.right (n := 8192) y_da).right (n := 8352) (by rw [Lm_, h.lO])).left
def aSL (h : u.Wf) {w : AI} {b : Nat} (hr : Row w b 0 (cU u)) : Row w b 8369 (u.P.map (.int .u8)) :=
 (((hr.right (n := 8192) y_da).right (n := 8352) (by rw [Lm_, h.lO])).right (n := 8364) y_db).right (n := 8369) rfl
def aQn (h : u.Wf) {j : Nat} (hj : j < 8192) (x : Int) : aP (cU u) j [.int .u8 x] = cU { u with V := u.V.set j x } := by
 unfold cU
 rw [eU (by simp [h.lV]; omega), jE .u8 (by rw [h.lV]; exact hj)]
def aJD (h : u.Wf) {j : Nat} (hj : j < 160) (x : Int) : aP (cU u) (8192 + j) [.int .u8 x] = cU { u with O := u.O.set j x } := by
 unfold cU
 rw [bQ (n := j) y_da (by simp [h.lO]; omega), eU (by simp [h.lO]; omega), jE .u8 (by rw [h.lO]; exact hj)]
def aJT (h : u.Wf) {j : Nat} (hj : j < 12) (x : Int) : aP (cU u) (8352 + j) [.int .u8 x] = cU { u with R := u.R.set j x } := by
 unfold cU
 rw [bQ (n := 160 + j) y_cC (by simp [h.lO, h.lR]; omega), bQ (n := j) (by rw [Lm_, h.lO]) (by simp [h.lR]; omega), eU (by simp [h.lR]; omega), jE .u8 y_c9]
def qR (h : u.Wf) {j : Nat} {v : AH} (hj : j < 5) : aP (cU u) (8364 + j) [v] = u.V.map (.int .u8) ++ (u.O.map (.int .u8) ++ (u.R.map (.int .u8) ++ (aP [.int .i64 u.line, .int .i64 u.dot, .int .i64 u.own, .int .i64 u.frames, .bool u.sig] j [v] ++ u.P.map (.int .u8)))) := by
 unfold cU
 rw [bQ (n := 172 + j) y_cC (by simp [h.lO, h.lR]; omega), bQ (n := 12 + j) (by rw [Lm_, h.lO]; omega) (by simp [h.lR]; omega), bQ (n := j) y_db y_bS, eU y_bS]
def rB (h : u.Wf) (x : Int) : aP (cU u) 8364 [.int .i64 x] = cU { u with line := x } := qR h (j := 0) y_b
def sI (h : u.Wf) (x : Int) : aP (cU u) 8365 [.int .i64 x] = cU { u with dot := x } := qR h (j := 1) y_b
def qF (h : u.Wf) (x : Int) : aP (cU u) 8366 [.int .i64 x] = cU { u with own := x } := qR h (j := 2) y_b
def aF5 (h : u.Wf) (x : Int) : aP (cU u) 8367 [.int .i64 x] = cU { u with frames := x } := qR h (j := 3) y_b
def aMQ (h : u.Wf) (x : Bool) : aP (cU u) 8368 [.bool x] = cU { u with sig := x } := qR h (j := 4) y_b
def putU_P (h : u.Wf) {j : Nat} {r : AB} (hj : j + r.length ≤ 23040) : aP (cU u) (8369 + j) (r.map (.int .u8)) = cU { u with P := kR u.P j r } := by
 unfold cU
 rw [bQ (n := 177 + j) y_cC (by simp [h.lO, h.lR, h.lP]; omega), bQ (n := 17 + j) (by rw [Lm_, h.lO]; omega) (by simp [h.lR, h.lP]; omega), bQ (n := 5 + j) y_cq (by simp [h.lP]; omega), bQ (n := j) y_v (by simp [h.lP]; omega), aE3]
end
def fX (u : PU) : Bool := decide (128 ≤ u.r 0)
def modeU (u : PU) : Int := if fX u = true then (if 144 ≤ u.line then 1 else if u.dot < 20 then 2 else if u.dot < 63 then 3 else 0) else 0
def sX (u : PU) : Bool := fX u && (u.line == u.r 5)
def vC (m : Int) : Int := if m = 0 then 8 else if m = 1 then 16 else if m = 2 then 32 else 0
def sigU (u : PU) : Bool := fX u && ((aG .u8 (u.r 1) (vC (modeU u)) != 0) || ((aG .u8 (u.r 1) 64 != 0) && sX u))
def askU (u : PU) : PU := { u with sig := sigU u }
def askV (u : PU) : Int := if sigU u = true ∧ u.sig = false then 2 else 0
def viewU (u : PU) : Vw := ⟨u.r 0, u.r 3, u.r 2, u.r 11, u.r 10⟩
def belowU (u : PU) : AB := uD u.V (viewU u) u.line u.own
def rowU (u : PU) : AB := (List.range 160).map (uC u.V u.O (u.r 0) (u.r 7) (u.r 8) (u.r 9) u.line (belowU u))
def jP (u : PU) : PU := { u with P := kR u.P (u.line.toNat * 160) (rowU u), own := if jL (viewU u) u.line = true then u.own + 1 else u.own }
def kB (u : PU) : PU := if u.line = 143 then { u with dot := 0, line := 144, frames := (u.frames + 1) % 65536 } else if u.line = 153 then { u with dot := 0, line := 0, own := 0 } else { u with dot := 0, line := u.line + 1 }
def tO (u : PU) : Int := if u.line = 143 then 1 else 0
def oneU (u : PU) : PU := { u with dot := u.dot + 1 }
def stepU (u : PU) : PU := if u.dot = 62 ∧ u.line < 144 then jP (oneU u) else if u.dot = 113 then kB (oneU u) else oneU u
def stepV (u : PU) : Int := if u.dot = 113 ∧ u.line = 143 then 1 else 0
def tickU (u : PU) : PU := if fX u = true then askU (stepU u) else u
def tickV (u : PU) : Int := if fX u = true then stepV u + askV (stepU u) else 0
def oK : PU := ⟨List.replicate 8192 0, List.replicate 160 0, List.replicate 12 0, 0, 0, 0, 0, false, List.replicate 23040 0⟩
def vX (n : Nat) : aY (List.replicate n 0) := fun x hx => by rw [(List.mem_replicate.1 hx).2]; omega
def aLH : oK.Wf := by
 refine ⟨ca, ca, ca, ca, vX _, vX _, vX _, vX _, ?_, ?_, ?_, ?_, ?_⟩ <;> decide +kernel
def aFx : oK.Ok := ⟨aLH, y_et, y_et, y_et⟩
section
variable {u : PU}
def PU.Wf.look (h : u.Wf) (j : Nat) : 0 ≤ u.r j ∧ u.r j < 256 := h.bR.get j
def viewU_ok (h : u.Wf) : (viewU u).Ok := ⟨h.look 0, h.look 3, h.look 2, h.look 11, h.look 10⟩
def aN4 (h : u.Wf) : (aG .u8 (u.r 0) 128 != 0) = fX u := by
 have := aW (p := fun c => (aG .u8 c 128 != 0) = decide (128 ≤ c)) y_F (h.look 0).1 (h.look 0).2
 exact this
def xI (u : PU) : 0 ≤ modeU u ∧ modeU u < 4 := by
 unfold modeU; repeat' split
 all_goals omega
def rowU_len (u : PU) : (rowU u).length = 160 := by simp [rowU]
def aSi (u : PU) : ([.int .u8 8, .int .u8 16, .int .u8 32, .int .u8 0] : AA)[0 + (modeU u).toNat]? = some (.int .u8 (vC (modeU u))) := by
 obtain ⟨h1, h2⟩ := xI u
 rcases (show modeU u = 0 ∨ modeU u = 1 ∨ modeU u = 2 ∨ modeU u = 3 by omega) with h | h | h | h <;> rw [h] <;> rfl
def zZ (h : u.Wf) {X : Bool} (hX : X = sigU u) : aP (cU u) 8368 [.bool X] = cU (askU u) := by subst hX; exact aMQ h _
def PU.Wf.sig_ (h : u.Wf) (x : Bool) : ({ u with sig := x } : PU).Wf := ⟨h.lV, h.lO, h.lR, h.lP, h.bV, h.bO, h.bR, h.bP, h.line, h.dot, h.own, h.frames, h.how⟩
def PU.Wf.ask (h : u.Wf) : (askU u).Wf := h.sig_ _
def PU.Wf.dot_ (h : u.Wf) {x : Int} (hx : 0 ≤ x ∧ x ≤ 114) : ({ u with dot := x } : PU).Wf := ⟨h.lV, h.lO, h.lR, h.lP, h.bV, h.bO, h.bR, h.bP, h.line, hx, h.own, h.frames, h.how⟩
def PU.Wf.line_ (h : u.Wf) {x : Int} (hx : 0 ≤ x ∧ x ≤ 154) : ({ u with line := x } : PU).Wf := ⟨h.lV, h.lO, h.lR, h.lP, h.bV, h.bO, h.bR, h.bP, hx, h.dot, h.own, h.frames, h.how⟩
def PU.Wf.own_ (h : u.Wf) {x : Int} (hx : 0 ≤ x ∧ x ≤ 600) : ({ u with own := x } : PU).Wf := ⟨h.lV, h.lO, h.lR, h.lP, h.bV, h.bO, h.bR, h.bP, h.line, h.dot, hx, h.frames, h.how⟩
def PU.Wf.frames_ (h : u.Wf) {x : Int} (hx : 0 ≤ x ∧ x < 65536) : ({ u with frames := x } : PU).Wf := ⟨h.lV, h.lO, h.lR, h.lP, h.bV, h.bO, h.bR, h.bP, h.line, h.dot, h.own, hx, h.how⟩
def kP {l : AB} (h : aY l) (j : Nat) {x : Int} (hx : 0 ≤ x ∧ x < 256) : aY (l.set j x) := fun y hy => by
 rcases ey hy with hy | rfl
 ·exact h y hy
 ·exact hx
def aLQ {l r : AB} (h : aY l) (hr : aY r) (o : Nat) : aY (kR l o r) := fun y hy => by
 unfold kR at hy
 rcases List.mem_append.1 hy with hy | hy
 ·rcases List.mem_append.1 hy with hy | hy
  ·exact h y (du hy)
  ·exact hr y hy
 ·exact h y (ef hy)
def PU.Wf.V_ (h : u.Wf) (j : Nat) {x : Int} (hx : 0 ≤ x ∧ x < 256) : ({ u with V := u.V.set j x } : PU).Wf := ⟨by simpa using h.lV, h.lO, h.lR, h.lP, kP h.bV j hx, h.bO, h.bR, h.bP, h.line, h.dot, h.own, h.frames, h.how⟩
def PU.Wf.O_ (h : u.Wf) (j : Nat) {x : Int} (hx : 0 ≤ x ∧ x < 256) : ({ u with O := u.O.set j x } : PU).Wf := ⟨h.lV, by simpa using h.lO, h.lR, h.lP, h.bV, kP h.bO j hx, h.bR, h.bP, h.line, h.dot, h.own, h.frames, h.how⟩
def PU.Wf.R_ (h : u.Wf) (j : Nat) {x : Int} (hx : 0 ≤ x ∧ x < 256) (hj : j = 1 → aG .u8 x 120 = x) : ({ u with R := u.R.set j x } : PU).Wf :=
 ⟨h.lV, h.lO, by simpa using h.lR, h.lP, h.bV, h.bO, kP h.bR j hx, h.bP, h.line, h.dot, h.own, h.frames, by
  by_cases h1 : j = 1
  ·subst h1
   have : (u.R.set 1 x).getD 1 0 = x := by rw [Gd_, gh (by rw [h.lR]; decide)]; rfl
   show aG .u8 ((u.R.set 1 x).getD 1 0) 120 = (u.R.set 1 x).getD 1 0
   rw [this]; exact hj rfl
  ·have : (u.R.set j x).getD 1 0 = u.R.getD 1 0 := by rw [Gd_, gz h1, ← Gd_]
   show aG .u8 ((u.R.set j x).getD 1 0) 120 = (u.R.set j x).getD 1 0
   rw [this]; exact h.how⟩
def PU.Wf.P_ (h : u.Wf) (j : Nat) {r : AB} (hr : aY r) (hj : j + r.length ≤ 23040) : ({ u with P := kR u.P j r } : PU).Wf :=
 ⟨h.lV, h.lO, h.lR, by show (kR u.P j r).length = 23040; rw [aLR (by rw [h.lP]; exact hj), h.lP], h.bV, h.bO, h.bR, aLQ h.bP hr j, h.line, h.dot, h.own, h.frames, h.how⟩
def placeV (b : Nat) (a : Int) : AH :=
 if 32768 ≤ a ∧ a < 40960 then .tuple #[.pointer (some ⟨b, 0 + (a - 32768).toNat, none⟩), .int .i64 3]
 else if 65024 ≤ a ∧ a < 65184 then .tuple #[.pointer (some ⟨b, 8192 + (a - 65024).toNat, none⟩), .int .i64 2] else .tuple #[.pointer none, .int .i64 0]
def numU (a : Int) : Int := if a < 65344 ∨ 65355 < a ∨ a = 65350 then -1 else a - 65344
def zP {a : Int} (_h : 0 ≤ a ∧ a < 65536) : (∃ j : Nat, j < 8192 ∧ a = 32768 + j) ∨ (∃ j : Nat, j < 160 ∧ a = 65024 + j) ∨ (¬ (32768 ≤ a ∧ a < 40960) ∧ ¬ (65024 ≤ a ∧ a < 65184)) := by
 by_cases h1 : 32768 ≤ a ∧ a < 40960
 ·exact .inl ⟨(a - 32768).toNat, y_B, y_B⟩
 ·by_cases h2 : 65024 ≤ a ∧ a < 65184
  ·exact .inr (.inl ⟨(a - 65024).toNat, y_B, y_B⟩)
  ·exact .inr (.inr ⟨h1, h2⟩)
def aCv {b j : Nat} (hj : j < 8192) : placeV b (32768 + j) = .tuple #[.pointer (some ⟨b, 0 + j, none⟩), .int .i64 3] := by
 unfold placeV
 rw [if_pos o_m, show ((32768 : Int) + j - 32768).toNat = j by omega]
def aCj {b j : Nat} (hj : j < 160) : placeV b (65024 + j) = .tuple #[.pointer (some ⟨b, 8192 + j, none⟩), .int .i64 2] := by
 unfold placeV
 rw [if_neg o_m, if_pos o_m, show ((65024 : Int) + j - 65024).toNat = j by omega]
def aAW {b : Nat} {a : Int} (h : ¬ (32768 ≤ a ∧ a < 40960) ∧ ¬ (65024 ≤ a ∧ a < 65184)) : placeV b a = .tuple #[.pointer none, .int .i64 0] := by
 unfold placeV
 rw [if_neg h.1, if_neg h.2]
def tS (a : Int) : numU a = -1 ∨ (0 ≤ numU a ∧ numU a < 12 ∧ numU a ≠ 6) := by unfold numU; split <;> omega
def rowU_vals (u : PU) : aHA u.V u.O (u.r 0) (u.r 7) (u.r 8) (u.r 9) u.line (belowU u) = (rowU u).map (.int .u8) := by simp [aHA, rowU]
def aA7 (p c : Int) : 0 ≤ shd p c ∧ shd p c < 4 := by unfold shd; omega
def aBj (l : AB) (c bk f s2 x line below : Int) (o : Option Sp) : 0 ≤ pG l c bk f s2 x line below o ∧ pG l c bk f s2 x line below o < 4 := by
 unfold pG
 split
 ·exact aA7 _ _
 ·split
  ·exact aA7 _ _
  ·split <;> exact aA7 _ _
def rowU_byts (u : PU) : aY (rowU u) := fun x hx => by
 obtain ⟨k, _, rfl⟩ := List.mem_map.1 hx
 have := aBj u.V (u.r 0) (u.r 7) (u.r 8) (u.r 9) k u.line ((belowU u).getD k 0) ((eM (iY u.O (u.r 0) u.line)).find? (hit u.V (u.r 0) k u.line))
 unfold uC; omega
def rT (h1 : u.dot = 62) (h2 : u.line < 144) : stepU u = jP (oneU u) := by unfold stepU; rw [if_pos ⟨h1, h2⟩]
def rA (h1 : u.dot = 113) : stepU u = kB (oneU u) := by unfold stepU; rw [if_neg o_m, if_pos h1]
def sT (h1 : ¬ (u.dot = 62 ∧ u.line < 144)) (h2 : ¬ u.dot = 113) : stepU u = oneU u := by unfold stepU; rw [if_neg h1, if_neg h2]
def PU.Wf.one (h : u.Wf) (hd : u.dot < 114) : (oneU u).Wf := h.dot_ (by have := h.dot; omega)
def PU.Wf.paint (h : u.Wf) (hl : u.line < 144) (ho : u.own < 600) : (jP u).Wf := by
 have h1 := h.P_ (u.line.toNat * 160) (rowU_byts u) (by rw [rowU_len]; have := h.line; omega)
 unfold jP
 by_cases hs : jL (viewU u) u.line = true
 ·rw [if_pos hs]; exact h1.own_ (by have := h.own; omega)
 ·rw [if_neg hs]; exact h1
def aKk (h : u.line = 143) : kB u = { u with dot := 0, line := 144, frames := (u.frames + 1) % 65536 } := by unfold kB; rw [if_pos h]
def aKh (h : u.line = 153) : kB u = { u with dot := 0, line := 0, own := 0 } := by unfold kB; rw [if_neg o_m, if_pos h]
def aJn (h1 : ¬ u.line = 143) (h2 : ¬ u.line = 153) : kB u = { u with dot := 0, line := u.line + 1 } := by unfold kB; rw [if_neg h1, if_neg h2]
def PU.Wf.next (h : u.Wf) (hl : u.line < 154) : (kB u).Wf := by
 have hb := h.line
 by_cases h1 : u.line = 143
 ·rw [aKk h1]; exact ((h.dot_ (x := 0) y_b).line_ (x := 144) y_b).frames_ o_m
 ·by_cases h2 : u.line = 153
  ·rw [aKh h2]; exact ((h.dot_ (x := 0) y_b).line_ (x := 0) y_b).own_ y_b
  ·rw [aJn h1 h2]; exact (h.dot_ (x := 0) y_b).line_ o_m
def PU.Ok.own599 (h : u.Ok) : u.own < 600 := by
 have := h.own; have := h.line; split at * <;> omega
def PU.Ok.step (h : u.Ok) : (stepU u).Wf := by
 have hd := h.dot
 by_cases h1 : u.dot = 62 ∧ u.line < 144
 ·rw [rT h1.1 h1.2]; exact (h.wf.one hd).paint h1.2 h.own599
 ·by_cases h2 : u.dot = 113
  ·rw [rA h2]; exact (h.wf.one hd).next h.line
  ·rw [sT h1 h2]; exact h.wf.one hd
def PU.Ok.tick (h : u.Ok) : (tickU u).Ok := by
 unfold tickU
 by_cases hl : fX u = true
 ·rw [if_pos hl]
  have hs := h.step
  have hd := h.dot
  have hn := h.line
  have ho := h.own
  have hz := h.wf.dot
  have hy := h.wf.line
  refine ⟨hs.ask, ?_, ?_, ?_⟩
  all_goals
   show _
   unfold askU
   by_cases h1 : u.dot = 62 ∧ u.line < 144
   ·rw [rT h1.1 h1.2]
    simp only [jP, oneU]
    split at ho <;> (try split) <;> (try split) <;> omega
   ·by_cases h2 : u.dot = 113
    ·rw [rA h2]
     unfold kB oneU
     dsimp only
     by_cases h3 : u.line = 143
     ·rw [if_pos h3]; dsimp only; split at ho <;> (try split) <;> omega
     ·rw [if_neg h3]
      by_cases h4 : u.line = 153
      ·rw [if_pos h4]; dsimp only; (try split) <;> omega
      ·rw [if_neg h4]; dsimp only; split at ho <;> (try split) <;> omega
    ·rw [sT h1 h2]
     unfold oneU
     dsimp only
     split at ho <;> (try split) <;> omega
 ·rw [if_neg hl]; exact h
def bor_ask {x y : Int} (hx : x = 0 ∨ x = 1) (hy : y = 0 ∨ y = 2) : bor .u8 x y = x + y := by
 rcases hx with rfl | rfl <;> rcases hy with rfl | rfl <;> decide
def askV_two (u : PU) : askV u = 0 ∨ askV u = 2 := by unfold askV; split <;> simp
def stepV_one (u : PU) : stepV u = 0 ∨ stepV u = 1 := by unfold stepV; split <;> simp
def aSd (h1 : fX u = false) : false = sigU u := by unfold sigU; rw [h1]; rfl
def aSl (h1 : fX u = true) (h2 : (aG .u8 (u.r 1) (vC (modeU u)) != 0) = true) : true = sigU u := by unfold sigU; rw [h1, h2]; rfl
def aSn (h1 : fX u = true) (h2 : (aG .u8 (u.r 1) (vC (modeU u)) != 0) = false) (h3 : (aG .u8 (u.r 1) 64 != 0) = false) : false = sigU u := by unfold sigU; rw [h1, h2, h3]; rfl
def aSs (h1 : fX u = true) (h2 : (aG .u8 (u.r 1) (vC (modeU u)) != 0) = false) (h3 : (aG .u8 (u.r 1) 64 != 0) = true) : sX u = sigU u := by unfold sigU; rw [h1, h2, h3]; rfl
def aDe (h : jL (viewU u) u.line = true) : jP u = { u with P := kR u.P (u.line.toNat * 160) (rowU u), own := u.own + 1 } := by unfold jP; rw [if_pos h]
def aFE (h : jL (viewU u) u.line = false) : jP u = { u with P := kR u.P (u.line.toNat * 160) (rowU u) } := by unfold jP; rw [if_neg (by rw [h]; decide)]
end
def mL {w : AI} {b j : Nat} {l : AA} {v : AH} (h : Row w b 0 l) (hv : l[j]? = some v) : w.cell? ⟨b, j, none⟩ = some v := by
 simpa using h j v hv
def wX (u : PU) : Int := bor .u8 (bor .u8 128 (u.r 1)) (modeU u)
def kV (u : PU) (a : Int) : Int :=
 if 32768 ≤ a ∧ a < 40960 then u.V.getD (a - 32768).toNat 0 else if 65024 ≤ a ∧ a < 65184 then u.O.getD (a - 65024).toNat 0
 else if numU a = -1 then 255 else if numU a = 4 then u.line % 256 else if numU a = 1 then (if sX u = true then bor .u8 (wX u) 4 else wX u) else u.r (numU a).toNat
def oX (u : PU) (a : Int) : Int :=
 if (32768 ≤ a ∧ a < 40960 ∧ 3 ≤ modeU u) ∨ (65024 ≤ a ∧ a < 65184 ∧ 2 ≤ modeU u) then 255 else kV u a
def gS (u : PU) (n : Int) (x : Int) : PU := if n = 1 then { u with R := u.R.set 1 (aG .u8 x 120) } else if n = 4 then u else { u with R := u.R.set n.toNat x }
def vZ (was : Bool) (u : PU) : PU := if was = true ∧ fX u = false then { u with line := 0, dot := 0, own := 0 } else u
def putU (u : PU) (n : Int) (x : Int) : PU := vZ (fX u) (gS u n x)
def eS (u : PU) (a x : Int) : PU :=
 if 32768 ≤ a ∧ a < 40960 then (if modeU u < 3 then { u with V := u.V.set (a - 32768).toNat x } else u)
 else if 65024 ≤ a ∧ a < 65184 then (if modeU u < 2 then { u with O := u.O.set (a - 65024).toNat x } else u)
 else if numU a = -1 then u else askU (putU u (numU a) x)
def jB (u : PU) (a x : Int) : Int :=
 if 32768 ≤ a ∧ a < 40960 then 0 else if 65024 ≤ a ∧ a < 65184 then 0 else if numU a = -1 then 0 else askV (putU u (numU a) x)
def kH (u : PU) (n x : Int) : PU := if 0 ≤ n ∧ n < 160 then { u with O := u.O.set n.toNat x } else u
section
variable {u : PU} {x : Int}
def aCe (hx : 0 ≤ x ∧ x < 256) : 0 ≤ aG .u8 x 120 ∧ aG .u8 x 120 < 256 ∧ aG .u8 (aG .u8 x 120) 120 = aG .u8 x 120 :=
 aW (p := fun x => 0 ≤ aG .u8 x 120 ∧ aG .u8 x 120 < 256 ∧ aG .u8 (aG .u8 x 120) 120 = aG .u8 x 120) y_F hx.1 hx.2
def PU.Wf.set1 (h : u.Wf) (hx : 0 ≤ x ∧ x < 256) : ({ u with R := u.R.set 1 (aG .u8 x 120) } : PU).Wf := h.R_ 1 ⟨(aCe hx).1, (aCe hx).2.1⟩ fun _ => (aCe hx).2.2
def PU.Wf.setn (h : u.Wf) (hx : 0 ≤ x ∧ x < 256) {n : Int} (_hn : 0 ≤ n) (h1 : ¬ n = 1) : ({ u with R := u.R.set n.toNat x } : PU).Wf := h.R_ n.toNat hx fun h2 => absurd h2 o_m
def PU.Wf.zero (h : u.Wf) : ({ u with line := 0, dot := 0, own := 0 } : PU).Wf := ((h.line_ (x := 0) y_b).dot_ (x := 0) y_b).own_ (x := 0) y_b
def set_1 {n : Int} (h : n = 1) : gS u n x = { u with R := u.R.set 1 (aG .u8 x 120) } := by unfold gS; rw [if_pos h]
def aBU {n : Int} (h : n = 4) : gS u n x = u := by unfold gS; rw [if_neg o_m, if_pos h]
def set_n {n : Int} (h1 : ¬ n = 1) (h4 : ¬ n = 4) : gS u n x = { u with R := u.R.set n.toNat x } := by unfold gS; rw [if_neg h1, if_neg h4]
def PU.Wf.set (h : u.Wf) (hx : 0 ≤ x ∧ x < 256) {n : Int} (hn : 0 ≤ n) : (gS u n x).Wf := by
 by_cases h1 : n = 1
 ·rw [set_1 h1]; exact h.set1 hx
 ·by_cases h4 : n = 4
  ·rw [aBU h4]; exact h
  ·rw [set_n h1 h4]; exact h.setn hx hn h1
def aAr {was : Bool} (h1 : was = true) (h2 : fX u = false) : vZ was u = { u with line := 0, dot := 0, own := 0 } := by unfold vZ; rw [if_pos ⟨h1, h2⟩]
def off_no {was : Bool} (h : was = false ∨ fX u = true) : vZ was u = u := by
 unfold vZ; rw [if_neg]; rintro ⟨h1, h2⟩; rcases h with h | h <;> simp_all
def PU.Wf.off (h : u.Wf) (was : Bool) : (vZ was u).Wf := by
 unfold vZ; split
 ·exact h.zero
 ·exact h
def aGc (b : Int) {j : Nat} (hj : j < 8192) : eS u (32768 + j) b = if modeU u < 3 then { u with V := u.V.set j b } else u := by
 unfold eS
 rw [if_pos o_m, show ((32768 : Int) + j - 32768).toNat = j by omega]
def aGL (b : Int) {j : Nat} (hj : j < 160) : eS u (65024 + j) b = if modeU u < 2 then { u with O := u.O.set j b } else u := by
 unfold eS
 rw [if_neg o_m, if_pos o_m, show ((65024 : Int) + j - 65024).toNat = j by omega]
def aNd {a : Int} (b : Int) (h : ¬ (32768 ≤ a ∧ a < 40960) ∧ ¬ (65024 ≤ a ∧ a < 65184)) (hn : numU a = -1) : eS u a b = u := by
 unfold eS; rw [if_neg h.1, if_neg h.2, if_pos hn]
def write_R {a : Int} (b : Int) (h : ¬ (32768 ≤ a ∧ a < 40960) ∧ ¬ (65024 ≤ a ∧ a < 65184)) (hn : ¬ numU a = -1) : eS u a b = askU (putU u (numU a) b) := by
 unfold eS; rw [if_neg h.1, if_neg h.2, if_neg hn]
def aQO (b : Int) {j : Nat} (hj : j < 8192) : jB u (32768 + j) b = 0 := by unfold jB; rw [if_pos o_m]
def aQz (b : Int) {j : Nat} (hj : j < 160) : jB u (65024 + j) b = 0 := by unfold jB; rw [if_neg o_m, if_pos o_m]
def aSE {a : Int} (b : Int) (h : ¬ (32768 ≤ a ∧ a < 40960) ∧ ¬ (65024 ≤ a ∧ a < 65184)) (hn : numU a = -1) : jB u a b = 0 := by
 unfold jB; rw [if_neg h.1, if_neg h.2, if_pos hn]
def wv_R {a : Int} (b : Int) (h : ¬ (32768 ≤ a ∧ a < 40960) ∧ ¬ (65024 ≤ a ∧ a < 65184)) (hn : ¬ numU a = -1) : jB u a b = askV (putU u (numU a) b) := by
 unfold jB; rw [if_neg h.1, if_neg h.2, if_neg hn]
def aQH {j : Nat} (hj : j < 8192) : kV u (32768 + j) = u.V.getD j 0 := by
 unfold kV; rw [if_pos o_m, show ((32768 : Int) + j - 32768).toNat = j by omega]
def aQF {j : Nat} (hj : j < 160) : kV u (65024 + j) = u.O.getD j 0 := by
 unfold kV; rw [if_neg o_m, if_pos o_m, show ((65024 : Int) + j - 65024).toNat = j by omega]
def yC {a : Int} (h : ¬ (32768 ≤ a ∧ a < 40960) ∧ ¬ (65024 ≤ a ∧ a < 65184)) :
  kV u a = if numU a = -1 then 255 else if numU a = 4 then u.line % 256 else if numU a = 1 then (if sX u = true then bor .u8 (wX u) 4 else wX u) else u.r (numU a).toNat := by
 unfold kV; rw [if_neg h.1, if_neg h.2]
def aJ4 {j : Nat} (hj : j < 8192) : oX u (32768 + j) = if 3 ≤ modeU u then 255 else kV u (32768 + j) := by
 unfold oX; by_cases h : 3 ≤ modeU u
 ·rw [if_pos o_m, if_pos h]
 ·rw [if_neg o_m, if_neg h]
def aKr {j : Nat} (hj : j < 160) : oX u (65024 + j) = if 2 ≤ modeU u then 255 else kV u (65024 + j) := by
 unfold oX; by_cases h : 2 ≤ modeU u
 ·rw [if_pos o_m, if_pos h]
 ·rw [if_neg o_m, if_neg h]
def aPA {a : Int} (h : ¬ (32768 ≤ a ∧ a < 40960) ∧ ¬ (65024 ≤ a ∧ a < 65184)) : oX u a = kV u a := by
 unfold oX; rw [if_neg o_m]
def PU.Ok.ask (h : u.Ok) : (askU u).Ok := ⟨h.wf.ask, h.line, h.dot, h.own⟩
def PU.Ok.write (h : u.Ok) {a : Int} (hx : 0 ≤ x ∧ x < 256) : (eS u a x).Ok := by
 have hl := h.line; have hd := h.dot; have ho := h.own
 unfold eS
 split
 ·split
  ·exact ⟨h.wf.V_ _ hx, hl, hd, ho⟩
  ·exact h
 ·split
  ·split
   ·exact ⟨h.wf.O_ _ hx, hl, hd, ho⟩
   ·exact h
  ·split
   ·exact h
   ·rename_i hn
    have hr := tS a
    refine PU.Ok.ask ?_
    have hs : (gS u (numU a) x).Ok := by
     refine ⟨h.wf.set hx o_m, ?_, ?_, ?_⟩ <;> (unfold gS; split; · assumption) <;> split <;> assumption
    unfold putU vZ
    split
    ·exact ⟨hs.wf.zero, by show (0 : Int) < 154; decide, by show (0 : Int) < 114; decide, by show (0 : Int) ≤ 255 + 0 + (if (63 : Int) ≤ 0 then 1 else 0); decide⟩
    ·exact hs
def PU.Ok.sprite (h : u.Ok) (n : Int) (hx : 0 ≤ x ∧ x < 256) : (kH u n x).Ok := by
 have hl := h.line; have hd := h.dot; have ho := h.own
 unfold kH
 split
 ·exact ⟨h.wf.O_ _ hx, hl, hd, ho⟩
 ·exact h
end
structure Opr where
 kind : Int
 x : Int
 y : Int
 size : Int
 n : Int
 deriving DecidableEq
def cO (o : Opr) : AA := [.int .i64 o.kind, .int .i64 o.x, .int .i64 o.y, .int .i64 o.size, .int .u16 o.n]
def cO_len (o : Opr) : (cO o).length = 5 := rfl
def aHd {l : AA} {o : Opr} (h : l = cO o) : Value.agg l.toArray = .agg (cO o).toArray := by rw [h]
def o0 : Opr := ⟨0, 0, 0, 0, 0⟩
def cW (s : List UInt8) : AA := [.string (bs s)]
def aQ7 (s : List UInt8) : (cW s).length = 1 := rfl
def cG (n : Int) (ws : List (List UInt8)) : List UInt8 := if n < 0 ∨ (ws.length : Int) ≤ n then [63] else ws.getD n.toNat []
def jR {ws : List (List UInt8)} {m : Nat} (h : ∀ w ∈ ws, w.length ≤ m) (hm : 1 ≤ m) (n : Int) : (cG n ws).length ≤ m := by
 unfold cG
 split
 ·simpa using hm
 ·rename_i hn
  have hlt : n.toNat < ws.length := by omega
  rw [Gd_, am hlt, gj]
  exact h _ (fh hlt)
def pB : List (List UInt8) := [[98], [99], [100], [101], [104], [108], [40, 104, 108, 41], [97]]
def rJ : List (List UInt8) := [[98, 99], [100, 101], [104, 108], [115, 112], [97, 102]]
def aAO : List (List UInt8) := [[40, 98, 99, 41], [40, 100, 101, 41], [40, 104, 108, 43, 41], [40, 104, 108, 45, 41]]
def yV : List (List UInt8) := [[97, 100, 100], [97, 100, 99], [115, 117, 98], [115, 98, 99], [97, 110, 100], [120, 111, 114], [111, 114], [99, 112]]
def aCd : List (List UInt8) := [[48], [49], [50], [51], [52], [53], [54], [55]]
def aBN : List (List UInt8) := [[114, 108, 99], [114, 114, 99], [114, 108], [114, 114], [115, 108, 97], [115, 114, 97], [115, 119, 97, 112], [115, 114, 108]]
def zN : List (List UInt8) := [[114, 108, 99, 97], [114, 114, 99, 97], [114, 108, 97], [114, 114, 97]]
def rS : List (List UInt8) := [[110, 122], [122], [110, 99], [99]]
def vY : List (List UInt8) := [[100, 97, 97], [99, 112, 108], [115, 99, 102], [99, 99, 102]]
def aBa : List (List UInt8) := [[98, 105, 116], [114, 101, 115], [115, 101, 116]]
def aPe : (pB ++ rJ ++ aAO ++ yV ++ aCd ++ aBN ++ zN ++ rS ++ vY ++ aBa).all (fun w => Nat.ble w.length 5 && Nat.blt 0 w.length) = true := by decide
def oH {w : List UInt8} (h : w ∈ pB ++ rJ ++ aAO ++ yV ++ aCd ++ aBN ++ zN ++ rS ++ vY ++ aBa) : w.length ≤ 5 := by
 have := List.all_eq_true.1 aPe w h
 simp only [al] at this
 exact ag this.1
def aAg (n : Int) : (cG n pB).length ≤ 5 := jR (fun w h => oH y_cM) y_b n
def aGv (n : Int) : (cG n rJ).length ≤ 5 := jR (fun w h => oH y_cM) y_b n
def aGj (n : Int) : (cG n aAO).length ≤ 5 := jR (fun w h => oH y_cM) y_b n
def aGi (n : Int) : (cG n yV).length ≤ 5 := jR (fun w h => oH y_cM) y_b n
def aGJ (n : Int) : (cG n aCd).length ≤ 5 := jR (fun w h => oH y_cM) y_b n
def aEI (n : Int) : (cG n aBN).length ≤ 5 := jR (fun w h => oH y_cM) y_b n
def aDF (n : Int) : (cG n zN).length ≤ 5 := jR (fun w h => oH y_cM) y_b n
def aLs (n : Int) : (cG n rS).length ≤ 5 := jR (fun w h => oH y_cM) y_b n
def aGW (n : Int) : (cG n aBa).length ≤ 5 := jR (fun w h => oH y_cM) y_b n
def aGP {n : Int} {ws : List (List UInt8)} (h : n < 0 ∨ (ws.length : Int) ≤ n) : cG n ws = [63] := by unfold cG; rw [if_pos h]
def aOt {n : Int} {ws : List (List UInt8)} {m : Nat} {s : List UInt8} (hn : n = (m : Int)) (h : ws[m]? = some s) : cG n ws = s := by
 obtain ⟨h1, h2⟩ := List.getElem?_eq_some_iff.1 h
 unfold cG
 rw [if_neg o_m, Gd_, hn, bj, h]; rfl
def aL4 : List UInt8 := [48, 49, 50, 51, 52, 53, 54, 55, 56, 57, 97, 98, 99, 100, 101, 102]
def dig (m : Nat) : UInt8 := aL4.getD m 0
def aPK {m : Nat} (h : m < 16) : aL4[m]? = some (dig m) := by
 unfold dig
 rw [Gd_, am (by simpa [aL4] using h)]; rfl
def jH (n : Nat) (many : Nat) : List UInt8 := (List.range many).reverse.map fun i => dig (n / 16 ^ i % 16)
def jU (n many : Nat) : (jH n many).length = many := by simp [jH]
def aMp {n many j : Nat} (h : j < many) : (jH n many)[j]? = some (dig (n / 16 ^ (many - 1 - j) % 16)) := by
 unfold jH
 rw [bz, List.getElem?_reverse (by simpa using h), List.length_range, ei o_m]; rfl
def aCY (n i : Nat) : jH n (i + 1) = dig (n / 16 ^ i % 16) :: jH n i := by
 unfold jH
 rw [dq, List.reverse_append]; rfl
def aSc (v : Int) (h0 : 0 ≤ v) (h : v < 65536) : aG .u16 v 15 = v % 16 := by
 unfold aG
 obtain ⟨m, rfl⟩ : ∃ m : Nat, v = m := ⟨v.toNat, y_B⟩
 have h1 : (BitVec.ofInt IntKind.u16.bits (m : Int) &&& BitVec.ofInt IntKind.u16.bits 15).toNat = m % 16 := by
  have e1 : BitVec.ofInt IntKind.u16.bits (m : Int) = BitVec.ofNat 16 m := by simp [IntKind.bits]
  have e2 : BitVec.ofInt IntKind.u16.bits 15 = BitVec.ofNat 16 15 := rfl
  rw [e1, e2]
  have e3 : (BitVec.ofNat 16 m &&& BitVec.ofNat 16 15).toNat = (m % 65536) &&& 15 := by simp
  have e4 : (m % 65536) &&& 15 = m % 65536 % 16 := dx (m % 65536) 4
  exact e3.trans (by rw [e4]; omega)
 rw [h1, eT]; omega
def aP4 {n : Int} {i : Nat} (h0 : 0 ≤ n) (h : n < 65536) (hi : i ≤ 3) : aG .u16 (shr .u16 n (4 * (i : Int))) 15 = ((n.toNat / 16 ^ i % 16 : Nat) : Int) := by
 have hs : shr .u16 n (4 * (i : Int)) = n / (16 ^ i : Nat) := by
  unfold shr
  have e1 : min (4 * (i : Int)).toNat IntKind.u16.bits = 4 * i := by
   have : IntKind.u16.bits = 16 := rfl
   rw [this]; omega
  rw [e1, dv _ (by exact g5 (fe y_b))]
  congr 1
  have : ((2 : Int) ^ (4 * i)) = ((16 ^ i : Nat) : Int) := by rw [Int.pow_mul]; simp
  exact this
 have hp : (0 : Int) < ((16 ^ i : Nat) : Int) := by
  have : 0 < 16 ^ i := Nat.pow_pos y_b
  omega
 rw [hs, aSc _ (gw h0 o_m) (by
  have := gl ((16 ^ i : Nat) : Int) h0
  omega)]
 obtain ⟨m, rfl⟩ : ∃ m : Nat, n = m := ⟨n.toNat, y_B⟩
 rw [bj]
 omega
def whenL (word : List UInt8) (cond : Int) (more : List UInt8) : List UInt8 :=
 if cond = 4 then (if more = [] then word else word ++ ([32] ++ more))
 else (if more = [] then word ++ ([32] ++ cG cond rS) else word ++ ([32] ++ cG cond rS) ++ [44] ++ ([32] ++ more))
def h2 (o : Opr) : List UInt8 := jH o.n.toNat 2
def h4 (o : Opr) : List UInt8 := jH o.n.toNat 4
def aloneL (k : Int) : List UInt8 :=
 if k = 1 then [110, 111, 112]
 else if k = 3 then [104, 97, 108, 116]
 else if k = 4 then [98, 97, 100]
 else if k = 5 then [100, 105]
 else if k = 6 then [101, 105]
 else if k = 19 ∨ k = 20 ∨ k = 21 ∨ k = 22 then cG (k - 19) vY
 else if k = 27 then [114, 101, 116, 105]
 else if k = 29 then [106, 112, 32, 104, 108]
 else if k = 36 then [108, 100, 104, 32, 97, 44, 32, 40, 99, 41]
 else if k = 37 then [108, 100, 104, 32, 40, 99, 41, 44, 32, 97]
 else if k = 43 then [108, 100, 32, 115, 112, 44, 32, 104, 108]
 else [63]
def restL (o : Opr) : List UInt8 :=
 if o.kind = 28 then [114, 115, 116, 32] ++ h2 o
 else if o.kind = 30 then [112, 117, 115, 104, 32] ++ cG o.x rJ
 else if o.kind = 31 then [112, 111, 112, 32] ++ cG o.x rJ
 else if o.kind = 32 then [108, 100, 32, 97, 44, 32] ++ cG o.x aAO
 else if o.kind = 33 then [108, 100, 32] ++ cG o.x aAO ++ [44, 32, 97]
 else if o.kind = 34 then [108, 100, 104, 32, 97, 44, 32, 40] ++ h2 o ++ [41]
 else if o.kind = 35 then [108, 100, 104, 32, 40] ++ h2 o ++ [41, 44, 32, 97]
 else if o.kind = 38 then [108, 100, 32, 97, 44, 32, 40] ++ h4 o ++ [41]
 else if o.kind = 39 then [108, 100, 32, 40] ++ h4 o ++ [41, 44, 32, 97]
 else if o.kind = 40 then [108, 100, 32, 40] ++ h4 o ++ [41, 44, 32, 115, 112]
 else if o.kind = 41 then [97, 100, 100, 32, 115, 112, 44, 32] ++ h2 o
 else if o.kind = 42 then [108, 100, 32, 104, 108, 44, 32, 115, 112, 43] ++ h2 o
 else if o.kind = 44 ∨ o.kind = 45 ∨ o.kind = 46 then cG (o.kind - 44) aBa ++ [32] ++ cG o.x aCd ++ [44, 32] ++ cG o.y pB
 else aloneL o.kind
def txt (o : Opr) : List UInt8 :=
 if o.kind = 2 then [115, 116, 111, 112, 32] ++ h2 o
 else if o.kind = 7 then [108, 100, 32] ++ cG o.x pB ++ [44, 32] ++ cG o.y pB
 else if o.kind = 8 then [108, 100, 32] ++ cG o.x pB ++ [44, 32] ++ h2 o
 else if o.kind = 9 then [108, 100, 32] ++ cG o.x rJ ++ [44, 32] ++ h4 o
 else if o.kind = 10 then cG o.x yV ++ [32, 97, 44, 32] ++ cG o.y pB
 else if o.kind = 11 then cG o.x yV ++ [32, 97, 44, 32] ++ h2 o
 else if o.kind = 12 then [105, 110, 99, 32] ++ cG o.x pB
 else if o.kind = 13 then [100, 101, 99, 32] ++ cG o.x pB
 else if o.kind = 14 then [105, 110, 99, 32] ++ cG o.x rJ
 else if o.kind = 15 then [100, 101, 99, 32] ++ cG o.x rJ
 else if o.kind = 16 then [97, 100, 100, 32, 104, 108, 44, 32] ++ cG o.x rJ
 else if o.kind = 17 then cG o.x aBN ++ [32] ++ cG o.y pB
 else if o.kind = 18 then cG o.x zN
 else if o.kind = 23 then whenL [106, 114] o.x (h2 o)
 else if o.kind = 24 then whenL [106, 112] o.x (h4 o)
 else if o.kind = 25 then whenL [99, 97, 108, 108] o.x (h4 o)
 else if o.kind = 26 then whenL [114, 101, 116] o.x []
 else restL o
structure Pq where
 at_ : Nat
 by_ : Nat
 many : Nat
 kind : Int
 size : Int
 x : Option (List Int)
def PL : List Pq := [⟨0, 1, 1, 1, 1, none⟩, ⟨8, 1, 1, 40, 3, none⟩, ⟨16, 1, 1, 2, 2, none⟩, ⟨24, 1, 1, 23, 2, some [4]⟩, ⟨32, 8, 4, 23, 2, some [0, 1, 2, 3]⟩, ⟨1, 16, 4, 9, 3, some [0, 1, 2, 3]⟩, ⟨9, 16, 4, 16, 1, some [0, 1, 2, 3]⟩, ⟨2, 16, 4, 33, 1, some [0, 1, 2, 3]⟩, ⟨10, 16, 4, 32, 1, some [0, 1, 2, 3]⟩, ⟨3, 16, 4, 14, 1, some [0, 1, 2, 3]⟩, ⟨11, 16, 4, 15, 1, some [0, 1, 2, 3]⟩, ⟨4, 8, 8, 12, 1, some [0, 1, 2, 3, 4, 5, 6, 7]⟩, ⟨5, 8, 8, 13, 1, some [0, 1, 2, 3, 4, 5, 6, 7]⟩, ⟨6, 8, 8, 8, 2, some [0, 1, 2, 3, 4, 5, 6, 7]⟩, ⟨7, 8, 4, 18, 1, some [0, 1, 2, 3]⟩, ⟨39, 1, 1, 19, 1, none⟩, ⟨47, 1, 1, 20, 1, none⟩, ⟨55, 1, 1, 21, 1, none⟩, ⟨63, 1, 1, 22, 1, none⟩, ⟨192, 8, 4, 26, 1, some [0, 1, 2, 3]⟩, ⟨224, 1, 1, 35, 2, none⟩, ⟨232, 1, 1, 41, 2, none⟩, ⟨240, 1, 1, 34, 2, none⟩, ⟨248, 1, 1, 42, 2, none⟩, ⟨193, 16, 4, 31, 1, some [0, 1, 2, 4]⟩, ⟨197, 16, 4, 30, 1, some [0, 1, 2, 4]⟩, ⟨201, 1, 1, 26, 1, some [4]⟩, ⟨217, 1, 1, 27, 1, none⟩, ⟨233, 1, 1, 29, 1, none⟩, ⟨249, 1, 1, 43, 1, none⟩, ⟨194, 8, 4, 24, 3, some [0, 1, 2, 3]⟩, ⟨226, 1, 1, 37, 1, none⟩, ⟨234, 1, 1, 39, 3, none⟩, ⟨242, 1, 1, 36, 1, none⟩, ⟨250, 1, 1, 38, 3, none⟩, ⟨195, 1, 1, 24, 3, some [4]⟩, ⟨243, 1, 1, 5, 1, none⟩, ⟨251, 1, 1, 6, 1, none⟩, ⟨196, 8, 4, 25, 3, some [0, 1, 2, 3]⟩, ⟨205, 1, 1, 25, 3, some [4]⟩, ⟨198, 8, 8, 11, 2, some [0, 1, 2, 3, 4, 5, 6, 7]⟩]
def kW : List Opr := [⟨1, 0, 0, 1, 0⟩, ⟨9, 0, 0, 3, 0⟩, ⟨33, 0, 0, 1, 0⟩, ⟨14, 0, 0, 1, 0⟩, ⟨12, 0, 0, 1, 0⟩, ⟨13, 0, 0, 1, 0⟩, ⟨8, 0, 0, 2, 0⟩, ⟨18, 0, 0, 1, 0⟩, ⟨40, 0, 0, 3, 0⟩, ⟨16, 0, 0, 1, 0⟩, ⟨32, 0, 0, 1, 0⟩, ⟨15, 0, 0, 1, 0⟩, ⟨12, 1, 0, 1, 0⟩, ⟨13, 1, 0, 1, 0⟩, ⟨8, 1, 0, 2, 0⟩, ⟨18, 1, 0, 1, 0⟩, ⟨2, 0, 0, 2, 0⟩, ⟨9, 1, 0, 3, 0⟩, ⟨33, 1, 0, 1, 0⟩, ⟨14, 1, 0, 1, 0⟩, ⟨12, 2, 0, 1, 0⟩, ⟨13, 2, 0, 1, 0⟩, ⟨8, 2, 0, 2, 0⟩, ⟨18, 2, 0, 1, 0⟩, ⟨23, 4, 0, 2, 0⟩, ⟨16, 1, 0, 1, 0⟩, ⟨32, 1, 0, 1, 0⟩, ⟨15, 1, 0, 1, 0⟩, ⟨12, 3, 0, 1, 0⟩, ⟨13, 3, 0, 1, 0⟩, ⟨8, 3, 0, 2, 0⟩, ⟨18, 3, 0, 1, 0⟩, ⟨23, 0, 0, 2, 0⟩, ⟨9, 2, 0, 3, 0⟩, ⟨33, 2, 0, 1, 0⟩, ⟨14, 2, 0, 1, 0⟩, ⟨12, 4, 0, 1, 0⟩, ⟨13, 4, 0, 1, 0⟩, ⟨8, 4, 0, 2, 0⟩, ⟨19, 0, 0, 1, 0⟩, ⟨23, 1, 0, 2, 0⟩, ⟨16, 2, 0, 1, 0⟩, ⟨32, 2, 0, 1, 0⟩, ⟨15, 2, 0, 1, 0⟩, ⟨12, 5, 0, 1, 0⟩, ⟨13, 5, 0, 1, 0⟩, ⟨8, 5, 0, 2, 0⟩, ⟨20, 0, 0, 1, 0⟩, ⟨23, 2, 0, 2, 0⟩, ⟨9, 3, 0, 3, 0⟩, ⟨33, 3, 0, 1, 0⟩, ⟨14, 3, 0, 1, 0⟩, ⟨12, 6, 0, 1, 0⟩, ⟨13, 6, 0, 1, 0⟩, ⟨8, 6, 0, 2, 0⟩, ⟨21, 0, 0, 1, 0⟩, ⟨23, 3, 0, 2, 0⟩, ⟨16, 3, 0, 1, 0⟩, ⟨32, 3, 0, 1, 0⟩, ⟨15, 3, 0, 1, 0⟩, ⟨12, 7, 0, 1, 0⟩, ⟨13, 7, 0, 1, 0⟩, ⟨8, 7, 0, 2, 0⟩, ⟨22, 0, 0, 1, 0⟩, ⟨7, 0, 0, 1, 0⟩, ⟨7, 0, 1, 1, 0⟩, ⟨7, 0, 2, 1, 0⟩, ⟨7, 0, 3, 1, 0⟩, ⟨7, 0, 4, 1, 0⟩, ⟨7, 0, 5, 1, 0⟩, ⟨7, 0, 6, 1, 0⟩, ⟨7, 0, 7, 1, 0⟩, ⟨7, 1, 0, 1, 0⟩, ⟨7, 1, 1, 1, 0⟩, ⟨7, 1, 2, 1, 0⟩, ⟨7, 1, 3, 1, 0⟩, ⟨7, 1, 4, 1, 0⟩, ⟨7, 1, 5, 1, 0⟩, ⟨7, 1, 6, 1, 0⟩, ⟨7, 1, 7, 1, 0⟩, ⟨7, 2, 0, 1, 0⟩, ⟨7, 2, 1, 1, 0⟩, ⟨7, 2, 2, 1, 0⟩, ⟨7, 2, 3, 1, 0⟩, ⟨7, 2, 4, 1, 0⟩, ⟨7, 2, 5, 1, 0⟩, ⟨7, 2, 6, 1, 0⟩, ⟨7, 2, 7, 1, 0⟩, ⟨7, 3, 0, 1, 0⟩, ⟨7, 3, 1, 1, 0⟩, ⟨7, 3, 2, 1, 0⟩, ⟨7, 3, 3, 1, 0⟩, ⟨7, 3, 4, 1, 0⟩, ⟨7, 3, 5, 1, 0⟩, ⟨7, 3, 6, 1, 0⟩, ⟨7, 3, 7, 1, 0⟩, ⟨7, 4, 0, 1, 0⟩, ⟨7, 4, 1, 1, 0⟩, ⟨7, 4, 2, 1, 0⟩, ⟨7, 4, 3, 1, 0⟩, ⟨7, 4, 4, 1, 0⟩, ⟨7, 4, 5, 1, 0⟩, ⟨7, 4, 6, 1, 0⟩, ⟨7, 4, 7, 1, 0⟩, ⟨7, 5, 0, 1, 0⟩, ⟨7, 5, 1, 1, 0⟩, ⟨7, 5, 2, 1, 0⟩, ⟨7, 5, 3, 1, 0⟩, ⟨7, 5, 4, 1, 0⟩, ⟨7, 5, 5, 1, 0⟩, ⟨7, 5, 6, 1, 0⟩, ⟨7, 5, 7, 1, 0⟩, ⟨7, 6, 0, 1, 0⟩, ⟨7, 6, 1, 1, 0⟩, ⟨7, 6, 2, 1, 0⟩, ⟨7, 6, 3, 1, 0⟩, ⟨7, 6, 4, 1, 0⟩, ⟨7, 6, 5, 1, 0⟩, ⟨3, 0, 0, 1, 0⟩, ⟨7, 6, 7, 1, 0⟩, ⟨7, 7, 0, 1, 0⟩, ⟨7, 7, 1, 1, 0⟩, ⟨7, 7, 2, 1, 0⟩, ⟨7, 7, 3, 1, 0⟩, ⟨7, 7, 4, 1, 0⟩, ⟨7, 7, 5, 1, 0⟩, ⟨7, 7, 6, 1, 0⟩, ⟨7, 7, 7, 1, 0⟩, ⟨10, 0, 0, 1, 0⟩, ⟨10, 0, 1, 1, 0⟩, ⟨10, 0, 2, 1, 0⟩, ⟨10, 0, 3, 1, 0⟩, ⟨10, 0, 4, 1, 0⟩, ⟨10, 0, 5, 1, 0⟩, ⟨10, 0, 6, 1, 0⟩, ⟨10, 0, 7, 1, 0⟩, ⟨10, 1, 0, 1, 0⟩, ⟨10, 1, 1, 1, 0⟩, ⟨10, 1, 2, 1, 0⟩, ⟨10, 1, 3, 1, 0⟩, ⟨10, 1, 4, 1, 0⟩, ⟨10, 1, 5, 1, 0⟩, ⟨10, 1, 6, 1, 0⟩, ⟨10, 1, 7, 1, 0⟩, ⟨10, 2, 0, 1, 0⟩, ⟨10, 2, 1, 1, 0⟩, ⟨10, 2, 2, 1, 0⟩, ⟨10, 2, 3, 1, 0⟩, ⟨10, 2, 4, 1, 0⟩, ⟨10, 2, 5, 1, 0⟩, ⟨10, 2, 6, 1, 0⟩, ⟨10, 2, 7, 1, 0⟩, ⟨10, 3, 0, 1, 0⟩, ⟨10, 3, 1, 1, 0⟩, ⟨10, 3, 2, 1, 0⟩, ⟨10, 3, 3, 1, 0⟩, ⟨10, 3, 4, 1, 0⟩, ⟨10, 3, 5, 1, 0⟩, ⟨10, 3, 6, 1, 0⟩, ⟨10, 3, 7, 1, 0⟩, ⟨10, 4, 0, 1, 0⟩, ⟨10, 4, 1, 1, 0⟩, ⟨10, 4, 2, 1, 0⟩, ⟨10, 4, 3, 1, 0⟩, ⟨10, 4, 4, 1, 0⟩, ⟨10, 4, 5, 1, 0⟩, ⟨10, 4, 6, 1, 0⟩, ⟨10, 4, 7, 1, 0⟩, ⟨10, 5, 0, 1, 0⟩, ⟨10, 5, 1, 1, 0⟩, ⟨10, 5, 2, 1, 0⟩, ⟨10, 5, 3, 1, 0⟩, ⟨10, 5, 4, 1, 0⟩, ⟨10, 5, 5, 1, 0⟩, ⟨10, 5, 6, 1, 0⟩, ⟨10, 5, 7, 1, 0⟩, ⟨10, 6, 0, 1, 0⟩, ⟨10, 6, 1, 1, 0⟩, ⟨10, 6, 2, 1, 0⟩, ⟨10, 6, 3, 1, 0⟩, ⟨10, 6, 4, 1, 0⟩, ⟨10, 6, 5, 1, 0⟩, ⟨10, 6, 6, 1, 0⟩, ⟨10, 6, 7, 1, 0⟩, ⟨10, 7, 0, 1, 0⟩, ⟨10, 7, 1, 1, 0⟩, ⟨10, 7, 2, 1, 0⟩, ⟨10, 7, 3, 1, 0⟩, ⟨10, 7, 4, 1, 0⟩, ⟨10, 7, 5, 1, 0⟩, ⟨10, 7, 6, 1, 0⟩, ⟨10, 7, 7, 1, 0⟩, ⟨26, 0, 0, 1, 0⟩, ⟨31, 0, 0, 1, 0⟩, ⟨24, 0, 0, 3, 0⟩, ⟨24, 4, 0, 3, 0⟩, ⟨25, 0, 0, 3, 0⟩, ⟨30, 0, 0, 1, 0⟩, ⟨11, 0, 0, 2, 0⟩, ⟨28, 0, 0, 1, 0⟩, ⟨26, 1, 0, 1, 0⟩, ⟨26, 4, 0, 1, 0⟩, ⟨24, 1, 0, 3, 0⟩, ⟨4, 0, 0, 1, 0⟩, ⟨25, 1, 0, 3, 0⟩, ⟨25, 4, 0, 3, 0⟩, ⟨11, 1, 0, 2, 0⟩, ⟨28, 0, 0, 1, 8⟩, ⟨26, 2, 0, 1, 0⟩, ⟨31, 1, 0, 1, 0⟩, ⟨24, 2, 0, 3, 0⟩, ⟨4, 0, 0, 1, 0⟩, ⟨25, 2, 0, 3, 0⟩, ⟨30, 1, 0, 1, 0⟩, ⟨11, 2, 0, 2, 0⟩, ⟨28, 0, 0, 1, 16⟩, ⟨26, 3, 0, 1, 0⟩, ⟨27, 0, 0, 1, 0⟩, ⟨24, 3, 0, 3, 0⟩, ⟨4, 0, 0, 1, 0⟩, ⟨25, 3, 0, 3, 0⟩, ⟨4, 0, 0, 1, 0⟩, ⟨11, 3, 0, 2, 0⟩, ⟨28, 0, 0, 1, 24⟩, ⟨35, 0, 0, 2, 0⟩, ⟨31, 2, 0, 1, 0⟩, ⟨37, 0, 0, 1, 0⟩, ⟨4, 0, 0, 1, 0⟩, ⟨4, 0, 0, 1, 0⟩, ⟨30, 2, 0, 1, 0⟩, ⟨11, 4, 0, 2, 0⟩, ⟨28, 0, 0, 1, 32⟩, ⟨41, 0, 0, 2, 0⟩, ⟨29, 0, 0, 1, 0⟩, ⟨39, 0, 0, 3, 0⟩, ⟨4, 0, 0, 1, 0⟩, ⟨4, 0, 0, 1, 0⟩, ⟨4, 0, 0, 1, 0⟩, ⟨11, 5, 0, 2, 0⟩, ⟨28, 0, 0, 1, 40⟩, ⟨34, 0, 0, 2, 0⟩, ⟨31, 4, 0, 1, 0⟩, ⟨36, 0, 0, 1, 0⟩, ⟨5, 0, 0, 1, 0⟩, ⟨4, 0, 0, 1, 0⟩, ⟨30, 4, 0, 1, 0⟩, ⟨11, 6, 0, 2, 0⟩, ⟨28, 0, 0, 1, 48⟩, ⟨42, 0, 0, 2, 0⟩, ⟨43, 0, 0, 1, 0⟩, ⟨38, 0, 0, 3, 0⟩, ⟨6, 0, 0, 1, 0⟩, ⟨4, 0, 0, 1, 0⟩, ⟨4, 0, 0, 1, 0⟩, ⟨11, 7, 0, 2, 0⟩, ⟨28, 0, 0, 1, 56⟩]
def p1 (i : Nat) : Opr := if i / 64 = 1 then ⟨7, (i / 8 % 8 : Nat), (i % 8 : Nat), 1, 0⟩ else if i / 64 = 2 then ⟨10, (i / 8 % 8 : Nat), (i % 8 : Nat), 1, 0⟩ else ⟨4, 0, 0, 1, 0⟩
def b1 (i : Nat) : Opr := ⟨[17, 44, 45, 46].getD (i / 64) 0, (i / 8 % 8 : Nat), (i % 8 : Nat), 2, 0⟩
def qOp (q : Pq) (i : Nat) : Opr := ⟨q.kind, match q.x with
 | some x => x.getD i 0
 | none => 0, 0, q.size, 0⟩
def uQ (q : Pq) (P : List Opr) (n : Nat) : List Opr := (List.range n).foldl (fun P i => P.set (q.at_ + q.by_ * i) (qOp q i)) P
def putQ (P : List Opr) (q : Pq) : List Opr := uQ q P q.many
def zL (P : List Opr) (n : Nat) : List Opr := (List.range n).foldl (fun P y => P.set (199 + 8 * y) ⟨28, 0, 0, 1, (8 * y : Nat)⟩) P
def okQ (q : Pq) : Bool := (List.range q.many).all (fun i => Nat.blt (q.at_ + q.by_ * i) 256) && Nat.ble q.many 8 && Nat.ble q.by_ 16 && (match q.x with
 | some x => Nat.beq x.length q.many
 | none => true)
def aSD : PL.all okQ = true := by decide
def aRa : PL.length = 41 := rfl
def lD : List Opr := ((List.range 256).map p1).set 118 ⟨3, 0, 0, 1, 0⟩
def tabB : List Opr := (List.range 256).map b1
def aRB : zL (PL.foldl putQ lD) 8 = kW := by kernel_rfl
def aCJ (q : Pq) (P : List Opr) : uQ q P 0 = P := rfl
def aKR (P : List Opr) : zL P 0 = P := rfl
def zQ (q : Pq) (P : List Opr) (n : Nat) : uQ q P (n + 1) = (uQ q P n).set (q.at_ + q.by_ * n) (qOp q n) := by simp [uQ, dq]
def aDs (P : List Opr) (n : Nat) : zL P (n + 1) = (zL P n).set (199 + 8 * n) ⟨28, 0, 0, 1, (8 * n : Nat)⟩ := by simp [zL, dq]
def aAQ (q : Pq) (P : List Opr) (n : Nat) : (uQ q P n).length = P.length := by
 induction n with
 | zero => rfl
 | succ n ih => rw [zQ, List.length_set, ih]
def aM9 (P : List Opr) (n : Nat) : (zL P n).length = P.length := by
 induction n with
 | zero => rfl
 | succ n ih => rw [aDs, List.length_set, ih]
def aC7 (l : List Pq) (P : List Opr) : (l.foldl putQ P).length = P.length := by
 induction l generalizing P with
 | nil => rfl
 | cons q l ih => rw [f6, ih, putQ, aAQ]
def aBI : lD.length = 256 := by simp [lD]
def foldQ_take {k : Nat} {q : Pq} (h : PL[k]? = some q) (P : List Opr) : (PL.take (k + 1)).foldl putQ P = putQ ((PL.take k).foldl putQ P) q := by
 rw [sQ h, fm]; rfl
def aLE {q : Pq} (h : okQ q = true) : (∀ i, i < q.many → q.at_ + q.by_ * i < 256) ∧ q.many ≤ 8 ∧ q.by_ ≤ 16 ∧ ∀ x, q.x = some x → x.length = q.many := by
 simp only [okQ, al, List.all_eq_true, fq] at h
 obtain ⟨⟨⟨h1, h2⟩, h3⟩, h4⟩ := h
 refine ⟨fun i hi => de (Nat.lt_succ_self _) (ag (h1 i hi)), ag h2, ag h3, fun x hx => ?_⟩
 rw [hx] at h4
 exact bi h4
def aQm {k : Nat} {q : Pq} (h : PL[k]? = some q) : okQ q = true := List.all_eq_true.1 aSD q (ay h)
def aMS {α : Type} {P : List α} {j : Nat} (h : j < P.length) (x : α) : (P.set j x).take (j + 1) = P.take j ++ [x] := by
 rw [cz, if_pos h, iw, Lt_, er o_m, gc, List.take_take]
 rw [Nat.min_eq_right o_m]; rfl
structure oG (f : Nat → Opr) (P : List Opr) (j : Nat) : Prop where
 len : P.length = 256
 part : P.take j = (List.range j).map f
def oG.start (f : Nat → Opr) {P : List Opr} (h : P.length = 256) : oG f P 0 := ⟨h, y_eu⟩
def oG.step {f : Nat → Opr} {P : List Opr} {j : Nat} (h : oG f P j) (hj : j < 256) : oG f (P.set j (f j)) (j + 1) :=
 ⟨by rw [List.length_set, h.len], by rw [aMS (by rw [h.len]; exact hj), h.part, dq, aw]; rfl⟩
def oG.all {f : Nat → Opr} {P : List Opr} (h : oG f P 256) : P = (List.range 256).map f := by
 have := h.part
 rwa [cw (by rw [h.len]; exact ax _)] at this
def gU (u1 u2 u3 : AH) (P B : List Opr) : AA := u1 :: u2 :: u3 :: (aE cO P ++ aE cO B)
section
variable {u1 u2 u3 : AH} {P B : List Opr}
def tabL_len (hP : P.length = 256) (hB : B.length = 256) : (gU u1 u2 u3 P B).length = 2563 := by
 simp [gU, bL cO_len, hP, hB]
def sY {α : Type} {c : α → AA} {s : Nat} (hc : ∀ x, (c x).length = s) (X : AA) (l : List α) (Z : AA) {i : Nat} (hi : i < l.length) (y : α) : aP (X ++ (aE c l ++ Z)) (X.length + i * s) (c y) = X ++ (aE c (l.set i y) ++ Z) := by
 have h1 : l = l.take i ++ l[i] :: l.drop (i + 1) := sK hi
 have h2 : l.set i y = l.take i ++ y :: l.drop (i + 1) := by rw [cz, if_pos hi]
 have hl : (X ++ aE c (l.take i)).length = X.length + i * s := by rw [La_, bL hc, Lt_, er o_m]
 have h := nO (X ++ aE c (l.take i)) (c l[i]) (aE c (l.drop (i + 1)) ++ Z) (c y) (by rw [hc, hc])
 rw [hl] at h
 have e1 : X ++ (aE c l ++ Z) = X ++ aE c (l.take i) ++ (c l[i] ++ (aE c (l.drop (i + 1)) ++ Z)) := by
  conv => lhs; rw [h1]
  rw [fJ, kM]; simp only [As_]
 have e2 : X ++ (aE c (l.set i y) ++ Z) = X ++ aE c (l.take i) ++ (c y ++ (aE c (l.drop (i + 1)) ++ Z)) := by
  rw [h2, fJ, kM]; simp only [As_]
 rw [e1, e2]; exact h
def lX (hP : P.length = 256) {i : Nat} (hi : i < 256) (x : Opr) : aP (gU u1 u2 u3 P B) (3 + i * 5) (cO x) = gU u1 u2 u3 (P.set i x) B :=
 sY cO_len [u1, u2, u3] P (aE cO B) o_m x
def aK0 (hP : P.length = 256) (hB : B.length = 256) {i : Nat} (hi : i < 256) (x : Opr) : aP (gU u1 u2 u3 P B) (1283 + i * 5) (cO x) = gU u1 u2 u3 P (B.set i x) := by
 have h := sY cO_len (u1 :: u2 :: u3 :: aE cO P) B [] (i := i) o_m x
 have hl : (u1 :: u2 :: u3 :: aE cO P).length = 1283 := by simp [bL cO_len, hP]
 rw [hl] at h
 simpa [gU] using h
def aKN {w : AI} {b : Nat} (h : Row w b 0 (gU u1 u2 u3 P B)) {i : Nat} {x : Opr} (hi : P[i]? = some x) : Row w b (3 + i * 5) (cO x) := by
 have h1 : Row w b 3 (aE cO P ++ aE cO B) := fun j v hv => by
  have := h (3 + j) v (by rw [gt]; exact hv)
  rwa [az] at this
 exact Row.nth' cO_len h1.left hi
def aJi {w : AI} {b : Nat} (hP : P.length = 256) (h : Row w b 0 (gU u1 u2 u3 P B)) {i : Nat} {x : Opr} (hi : B[i]? = some x) : Row w b (1283 + i * 5) (cO x) := by
 have h1 : Row w b 1283 (aE cO B) := fun j v hv => by
  have := h (1283 + j) v (by
   have e : gU u1 u2 u3 P B = (u1 :: u2 :: u3 :: aE cO P) ++ aE cO B := by simp [gU]
   have hl : (u1 :: u2 :: u3 :: aE cO P).length = 1283 := by simp [bL cO_len, hP]
   rw [e, d9 o_m, hl, gc]; exact hv)
  rwa [az] at this
 exact Row.nth' cO_len h1 hi
end
def rL (o : Opr) (b w : Int) : Opr := { o with n := if o.size = 2 then b else if o.size = 3 then w else o.n }
def rK (b : Int) : Opr := if b / 64 = 0 then ⟨17, b / 8 % 8, b % 8, 2, 0⟩ else ⟨43 + b / 64, b / 8 % 8, b % 8, 2, 0⟩
def dcd (a b c : Int) : Opr := if a = 203 then rK b else rL (kW.getD a.toNat o0) b (b + 256 * c)
def aOJ : (List.range 256).all (fun b => decide (b1 b = rK (b : Nat))) = true := by kernel_rfl
def aFR {b : Nat} (h : b < 256) : b1 b = rK (b : Nat) := by
 have := List.all_eq_true.1 aOJ b (List.mem_range.2 h)
 simpa using this
def aLi {b : Nat} (h : b < 256) : tabB[b]? = some (rK (b : Nat)) := by
 rw [← aFR h, tabB, bz, ei h]; rfl
def aFP : kW.length = 256 := by kernel_rfl
def aK6 {a : Nat} (h : a < 256) : kW[a]? = some (kW.getD a o0) := by
 rw [Gd_, am (by rw [aFP]; exact h)]; rfl
def pS {a b c : Int} (h : a = 203) : dcd a b c = rK b := by unfold dcd; rw [if_pos h]
def jQ {a b c : Int} {m : Nat} {o : Opr} (ha : a = (m : Int)) (h : ¬ a = 203) (ho : kW[m]? = some o) : dcd a b c = rL o b (b + 256 * c) := by
 unfold dcd
 rw [if_neg h, ha, bj, Gd_, ho]; rfl
def aEB {o : Opr} (h : o.size = 2) (b w : Int) : rL o b w = ⟨o.kind, o.x, o.y, o.size, b⟩ := by unfold rL; rw [if_pos h]
def aEo {o : Opr} (h : o.size = 3) (b w : Int) : rL o b w = ⟨o.kind, o.x, o.y, o.size, w⟩ := by unfold rL; rw [if_neg o_m, if_pos h]
def aBp {o : Opr} (h : ¬ o.size = 2) (h3 : ¬ o.size = 3) (b w : Int) : rL o b w = o := by unfold rL; rw [if_neg h, if_neg h3]
def aFk {b c : Int} (hb : 0 ≤ b ∧ b < 256) (hc : 0 ≤ c ∧ c < 256) : bor .u16 b (shl .u16 c 8) = b + 256 * c := by
 obtain ⟨m, rfl⟩ : ∃ m : Nat, b = m := ⟨b.toNat, y_B⟩
 obtain ⟨n, rfl⟩ : ∃ n : Nat, c = n := ⟨c.toNat, y_B⟩
 have h1 : shl .u16 (n : Int) 8 = ((n * 256 : Nat) : Int) := by
  unfold shl
  have : (min (8 : Int).toNat IntKind.u16.bits) = 8 := by decide
  rw [this, eT]; omega
 rw [h1]
 unfold bor
 have h2 : (BitVec.ofInt IntKind.u16.bits (m : Int) ||| BitVec.ofInt IntKind.u16.bits ((n * 256 : Nat) : Int)).toNat = n * 256 + m := by
  have e1 : BitVec.ofInt IntKind.u16.bits (m : Int) = BitVec.ofNat 16 m := by simp [IntKind.bits]
  have e2 : BitVec.ofInt IntKind.u16.bits ((n * 256 : Nat) : Int) = BitVec.ofNat 16 (n * 256) := by simp only [IntKind.bits]; exact BitVec.ofInt_natCast ..
  rw [e1, e2]
  have e3 : (BitVec.ofNat 16 m ||| BitVec.ofNat 16 (n * 256)).toNat = (m % 65536) ||| (n * 256 % 65536) := by simp
  have e4 : m % 65536 = m := by omega
  have e5 : n * 256 % 65536 = n * 256 := by omega
  have e6 : n * 256 ||| m = n * 256 + m := by
   have := Nat.shiftLeft_add_eq_or_of_lt (i := 8) (b := m) o_m n
   rw [i2] at this
   simpa using this.symm
  exact e3.trans (by rw [e4, e5, Nat.or_comm, e6])
 rw [h2, eT]; omega
def aR1 (o : Opr) : Bool := decide (1 ≤ o.kind ∧ o.kind ≤ 46 ∧ 1 ≤ o.size ∧ o.size ≤ 3 ∧ 0 ≤ o.n ∧ o.n < 256)
def aPm : kW.all aR1 = true := by kernel_rfl
def aJJ {m : Nat} {o : Opr} (h : kW[m]? = some o) : 1 ≤ o.kind ∧ o.kind ≤ 46 ∧ 1 ≤ o.size ∧ o.size ≤ 3 ∧ 0 ≤ o.n ∧ o.n < 256 :=
 c7 (List.all_eq_true.1 aPm o (ay h))
def qB {a : Int} (h0 : 0 ≤ a) (h : a < 256) : ∃ m : Nat, ∃ o, a = (m : Int) ∧ m < 256 ∧ kW[m]? = some o :=
 ⟨a.toNat, _, y_B, y_B, aK6 o_m⟩
structure Fine (a : Int) (o : Opr) : Prop where
 kind : 1 ≤ o.kind ∧ o.kind ≤ 46
 size : 1 ≤ o.size ∧ o.size ≤ 3
 num : 0 ≤ o.n ∧ o.n < 65536
 small : o.size = 3 ∨ o.n < 256
def aFf {b : Int} (hb : 0 ≤ b ∧ b < 256) : Fine 203 (rK b) := by
 unfold rK
 split <;> exact ⟨⟨y_D, y_D⟩, ⟨y_D, y_D⟩, ⟨y_D, y_D⟩, .inr y_dV⟩
def xL {a b c : Int} (ha : 0 ≤ a ∧ a < 256) (hb : 0 ≤ b ∧ b < 256) (hc : 0 ≤ c ∧ c < 256) : Fine a (dcd a b c) := by
 by_cases h : a = 203
 ·rw [pS h, h]; exact aFf hb
 ·obtain ⟨m, o, hm, _, ho⟩ := qB ha.1 ha.2
  have hr := aJJ ho
  rw [jQ hm h ho]
  by_cases h2 : o.size = 2
  ·rw [aEB h2]; exact ⟨⟨hr.1, hr.2.1⟩, ⟨hr.2.2.1, hr.2.2.2.1⟩, ⟨hb.1, y_D⟩, .inr hb.2⟩
  ·by_cases h3 : o.size = 3
   ·rw [aEo h3]; exact ⟨⟨hr.1, hr.2.1⟩, ⟨hr.2.2.1, hr.2.2.2.1⟩, ⟨y_D, y_D⟩, .inl h3⟩
   ·rw [aBp h2 h3]; exact ⟨⟨hr.1, hr.2.1⟩, ⟨hr.2.2.1, hr.2.2.2.1⟩, ⟨hr.2.2.2.2.1, y_B⟩, .inr hr.2.2.2.2.2⟩
end Go.Proofs.YtdbgagkcgdlnnaaGreat
