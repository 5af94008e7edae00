/- Parts. -/
import Derived.Test.YtacejanlmhbddaaGreatQfD
set_option maxRecDepth 100000
set_option maxHeartbeats 1000000
set_option linter.all false
namespace Go.Proofs.YtacejanlmhbddaaGreat
open Go Go.VV Go.Proofs Go.RowKit
structure Tm where
 cnt : Int
 tima : Int
 tma : Int
 tac : Int
 over : Bool
deriving DecidableEq
def cTm (t : Tm) : AA := [.int .u16 t.cnt, .int .u8 t.tima, .int .u8 t.tma, .int .u8 t.tac, .bool t.over]
structure Tm.Ok (t : Tm) : Prop where
 cnt : 0 ≤ t.cnt ∧ t.cnt < 65536
 tima : 0 ≤ t.tima ∧ t.tima < 256
 tma : 0 ≤ t.tma ∧ t.tma < 256
 tac : 0 ≤ t.tac ∧ t.tac < 256
def aIm (tac : Int) : Nat := if tac % 4 = 0 then 9 else if tac % 4 = 1 then 3 else if tac % 4 = 2 then 5 else 7
def yC (t : Tm) : Bool := decide (t.tac / 4 % 2 = 1) && decide (t.cnt / 2 ^ aIm t.tac % 2 = 1)
def wE (t : Tm) : Tm := { t with tima := (t.tima + 1) % 256, over := t.over || (t.tima + 1) % 256 == 0 }
def zR (was : Bool) (t : Tm) : Tm := if was = true ∧ yC t = false then wE t else t
def chT (g : Tm → Tm) (t : Tm) : Tm := zR (yC t) (g t)
def aNH (t : Tm) : Tm := if t.over = true then { t with tima := t.tma, over := false } else t
def gV (t : Tm) : Tm := { t with cnt := (t.cnt + 4) % 65536 }
def mT (t : Tm) : Tm := chT gV (aNH t)
def readTm (n : Int) (t : Tm) : Int := if n = 0 then t.cnt / 256 else if n = 1 then t.tima else if n = 2 then t.tma else if n = 3 then 248 + t.tac % 8 else 255
def gZ (t : Tm) : Tm := { t with cnt := 0 }
def jB (x : Int) (t : Tm) : Tm := { t with tac := x % 8 }
def writeTm (n x : Int) (t : Tm) : Tm := if n = 0 then chT gZ t else if n = 1 then { t with tima := x, over := false } else if n = 2 then { t with tma := x } else if n = 3 then chT (jB x) t else t
def sig_off {t : Tm} (h : t.tac / 4 % 2 * 4 = 0) : false = yC t := by unfold yC; rw [bw o_m]; rfl
def aCM {t : Tm} (d : Int) (h : ¬ t.tac / 4 % 2 * 4 = 0) (hd : (2 : Int) ^ aIm t.tac = d) : (t.cnt / d % 2 == 1) = yC t := by unfold yC; rw [hd, ah o_m, gm]; rfl
def aCw {t : Tm} {k : Int} {n : Nat} (h : t.tac % 4 = k) (hk : k = 0 ∧ n = 9 ∨ k = 1 ∧ n = 3 ∨ k = 2 ∧ n = 5 ∨ k = 3 ∧ n = 7) : aIm t.tac = n := by
 unfold aIm; rcases hk with ⟨rfl, rfl⟩ | ⟨rfl, rfl⟩ | ⟨rfl, rfl⟩ | ⟨rfl, rfl⟩ <;> simp [h]
def tO {was : Bool} {t : Tm} (h : was = false ∨ yC t = true) : t = zR was t := by unfold zR; rw [if_neg (by rintro ⟨h1, h2⟩; rcases h with h | h <;> simp_all)]
def rH {was : Bool} {t : Tm} (h1 : was = true) (h2 : yC t = false) : wE t = zR was t := by unfold zR; rw [if_pos ⟨h1, h2⟩]
def Tm.Ok.inc {t : Tm} (h : t.Ok) : (wE t).Ok := ⟨h.cnt, by unfold wE; dsimp only; omega, h.tma, h.tac⟩
def Tm.Ok.fall {t : Tm} (h : t.Ok) (b : Bool) : (zR b t).Ok := by unfold zR; split; exact h.inc; exact h
def Tm.Ok.irq {t : Tm} (h : t.Ok) : (aNH t).Ok := by unfold aNH; split; exact ⟨h.cnt, h.tma, h.tma, h.tac⟩; exact h
def Tm.Ok.step {t : Tm} (h : t.Ok) : (gV t).Ok := ⟨by unfold gV; dsimp only; omega, h.tima, h.tma, h.tac⟩
def Tm.Ok.tick {t : Tm} (h : t.Ok) : (mT t).Ok := h.irq.step.fall _
def Tm.Ok.zero {t : Tm} (h : t.Ok) : (gZ t).Ok := ⟨by unfold gZ; dsimp only; omega, h.tima, h.tma, h.tac⟩
def Tm.Ok.tac_ {t : Tm} (h : t.Ok) (x : Int) : (jB x t).Ok := ⟨h.cnt, h.tima, h.tma, by unfold jB; dsimp only; omega⟩
def Tm.Ok.write {t : Tm} (h : t.Ok) (n : Int) {x : Int} (hx : 0 ≤ x ∧ x < 256) : (writeTm n x t).Ok := by
 unfold writeTm
 split
 ·exact h.zero.fall _
 split
 ·exact ⟨h.cnt, hx, h.tma, h.tac⟩
 split
 ·exact ⟨h.cnt, h.tima, hx, h.tac⟩
 split
 ·exact (h.tac_ x).fall _
 ·exact h
def aMA {t : Tm} (h : t.Ok) (n : Int) : 0 ≤ readTm n t ∧ readTm n t < 256 := by
 have h1 := h.cnt; have h2 := h.tima; have h3 := h.tma
 unfold readTm; split; omega; split; omega; split; omega; split <;> omega
structure Pt where
 data : Int
 control : Int
 last : Int
 bits : Int
 count : Int
 sent : Int
deriving DecidableEq
def cPt (p : Pt) : AA := [.int .u8 p.data, .int .u8 p.control, .int .u8 p.last, .int .i64 p.bits, .int .i64 p.count, .int .i64 p.sent]
structure Pt.Ok (p : Pt) : Prop where
 data : 0 ≤ p.data ∧ p.data < 256
 control : 0 ≤ p.control ∧ p.control < 256
 last : 0 ≤ p.last ∧ p.last < 256
 bits : 0 ≤ p.bits ∧ p.bits < 65536
 count : 0 ≤ p.count ∧ p.count < 65536
 sent : 0 ≤ p.sent ∧ p.sent < 65536
def shiftPt (p : Pt) : Pt := { p with count := 0, data := p.data % 128 * 2 + 1, bits := p.bits - 1 }
def tickPt (p : Pt) : Pt :=
 if p.bits < 1 then p else if p.count + 1 < 128 then { p with count := p.count + 1 }
 else if 0 < p.bits - 1 then shiftPt p else { shiftPt p with control := p.control % 128 }
def nY (p : Pt) : Bool := decide (¬ p.bits < 1 ∧ ¬ p.count + 1 < 128 ∧ ¬ 0 < p.bits - 1)
def readPt (n : Int) (p : Pt) : Int := if n = 0 then p.data else if n = 1 then p.control / 128 * 128 + 126 + p.control % 2 else 255
def beginPt (p : Pt) : Pt := { p with bits := 8, count := 0, last := p.data, sent := (p.sent + 1) % 65536 }
def writePt (n x : Int) (p : Pt) : Pt :=
 if n = 0 then { p with data := x }
 else if n = 1 then (if x / 128 = 1 ∧ x % 2 = 1 then beginPt { p with control := x / 128 * 128 + x % 2, bits := 0 } else { p with control := x / 128 * 128 + x % 2, bits := 0 })
 else p
def Pt.Ok.tick {p : Pt} (h : p.Ok) : (tickPt p).Ok := by
 have h1 := h.data; have h2 := h.control; have h4 := h.bits; have h5 := h.count
 unfold tickPt
 split
 ·exact h
 split
 ·exact ⟨h.data, h.control, h.last, h.bits, y_B, h.sent⟩
 split
 ·exact ⟨y_bO, h.control, h.last, y_bO, y_bO, h.sent⟩
 ·exact ⟨y_bO, y_B, h.last, y_bO, y_bO, h.sent⟩
def Pt.Ok.write {p : Pt} (h : p.Ok) (n : Int) {x : Int} (hx : 0 ≤ x ∧ x < 256) : (writePt n x p).Ok := by
 have h6 := h.sent
 unfold writePt
 split
 ·exact ⟨hx, h.control, h.last, h.bits, h.count, h.sent⟩
 split
 ·split
  ·exact ⟨h.data, y_cv, h.data, y_cv, y_cv, y_cv⟩
  ·exact ⟨h.data, y_B, h.last, y_B, h.count, h.sent⟩
 ·exact h
def aL0 {p : Pt} (h : p.Ok) (n : Int) : 0 ≤ readPt n p ∧ readPt n p < 256 := by
 have h1 := h.data; have h2 := h.control
 unfold readPt; split; omega; split <;> omega
structure Cp where
 page : Int
 left : Int
deriving DecidableEq
def cCp (c : Cp) : AA := [.int .u8 c.page, .int .i64 c.left]
structure Cp.Ok (c : Cp) : Prop where
 page : 0 ≤ c.page ∧ c.page < 256
 left : 0 ≤ c.left ∧ c.left < 65536
def fromCp (c : Cp) : Int := if 224 ≤ c.page then (c.page - 32) * 256 else c.page * 256
def qA (c : Cp) : Bool := decide (0 < c.left)
def tickCp (c : Cp) : Cp := if 0 < c.left then { c with left := c.left - 1 } else c
def sC (c : Cp) : Int := if 0 < c.left then (fromCp c + (160 - c.left)) % 65536 else 0
def zT (c : Cp) : Int := if 0 < c.left then 160 - c.left else 0
def letsCp (c : Cp) (a : Int) : Bool := !qA c || decide (65280 ≤ a)
def tQ (x : Int) : Cp := ⟨x, 160⟩
def Cp.Ok.tick {c : Cp} (h : c.Ok) : (tickCp c).Ok := by
 have h1 := h.left
 unfold tickCp; split; exact ⟨h.page, y_B⟩; exact h
def aOo (c : Cp) : 0 ≤ sC c ∧ sC c < 65536 := by unfold sC; split <;> omega
structure Pd where
 sel : Int
 down : Int
deriving DecidableEq
def cPd (p : Pd) : AA := [.int .u8 p.sel, .int .u8 p.down]
structure Pd.Ok (p : Pd) : Prop where
 sel : 0 ≤ p.sel ∧ p.sel < 256
 down : 0 ≤ p.down ∧ p.down < 256
def aDP (p : Pd) : Int := if aH .u8 p.sel 16 = 0 then bor .u8 0 p.down else 0
def qD (p : Pd) : Int := aH .u8 (if aH .u8 p.sel 32 = 0 then bor .u8 (aDP p) (shr .u8 p.down 4) else aDP p) 15
def aCx (p : Pd) : Int := bor .u8 (bor .u8 192 (aH .u8 p.sel 48)) (aH .u8 (kM .u8 255 (qD p)) 15)
def nP (p q : Pd) : Bool := hQ .u8 (qD q) (qD p) != 0
def lN (x : Int) (p : Pd) : Pd := ⟨aH .u8 x 48, p.down⟩
def hY (x : Int) (p : Pd) : Pd := ⟨p.sel, x⟩
def aD2 (x : Int) : 0 ≤ IntKind.u8.wrap x ∧ IntKind.u8.wrap x < 256 := by rw [fL]; omega
def aBD (x y : Int) : 0 ≤ aH .u8 x y ∧ aH .u8 x y < 256 := aD2 _
def rY (x y : Int) : 0 ≤ bor .u8 x y ∧ bor .u8 x y < 256 := aD2 _
def aKD (p : Pd) : 0 ≤ aCx p ∧ aCx p < 256 := rY _ _
def Pd.Ok.sel_ {p : Pd} (h : p.Ok) (x : Int) : (lN x p).Ok := ⟨aBD _ _, h.down⟩
def Pd.Ok.press {p : Pd} (h : p.Ok) {x : Int} (hx : 0 ≤ x ∧ x < 256) : (hY x p).Ok := ⟨h.sel, hx⟩
structure Chg where
 at_ : Int
 down : Int
deriving DecidableEq
def nR (c : Chg) : AA := [.int .u64 c.at_, .int .u8 c.down]
def aJJ (o : Option Chg) (c : Chg) : Bool := match o with
 | none => true
 | some b => decide (b.at_ ≤ c.at_)
def rP (n : Int) (o : Option Chg) (c : Chg) : Option Chg := if c.at_ ≤ n ∧ aJJ o c = true then some c else o
def zQ (n : Int) (l : List Chg) : Option Chg := l.foldl (rP n) none
def eS (l : List Chg) (n : Int) : Int := match zQ n l with
 | none => 0
 | some c => c.down
def kN (c : Chg) : Prop := (0 ≤ c.at_ ∧ c.at_ < 18446744073709551616) ∧ 0 ≤ c.down ∧ c.down < 256
def best_step {n : Int} {l : List Chg} {i : Nat} {c : Chg} (hc : l[i]? = some c) : zQ n (l.take (i + 1)) = rP n (zQ n (l.take i)) c := by
 unfold zQ
 rw [eu, hc, ia]
 rfl
def aCr {n : Int} {o : Option Chg} {c : Chg} (h1 : c.at_ ≤ n) (h2 : aJJ o c = true) : rP n o c = some c := if_pos ⟨h1, h2⟩
def better_no {n : Int} {o : Option Chg} {c : Chg} (h : ¬ c.at_ ≤ n ∨ aJJ o c = false) : rP n o c = o := if_neg fun ⟨h1, h2⟩ => by rcases h with h | h; exact h h1; rw [h] at h2; cases h2
def cChg_len (c : Chg) : (nR c).length = 2 := rfl
def aL3 (n : Int) (l : List Chg) (c : Chg) (h : zQ n l = some c) : c ∈ l := by
 have key : ∀ (l : List Chg) (o : Option Chg) (S : Chg → Prop), (∀ c, o = some c → S c) → (∀ c ∈ l, S c) → ∀ c, l.foldl (rP n) o = some c → S c := by
  intro l
  induction l with
  | nil => exact fun o S ho _ c h => ho c h
  | cons d l ih =>
   intro o S ho hl c h
   refine ih (rP n o d) S (fun c hc => ?_) (fun c hc => hl c (.tail _ hc)) c h
   unfold rP at hc
   split at hc
   ·cases hc; exact hl d (.head _)
   ·exact ho c hc
 exact key l none (· ∈ l) (fun c h => y_eO) (fun c h => h) c h
def aEf {l : List Chg} (h : ∀ c ∈ l, kN c) (n : Int) : 0 ≤ eS l n ∧ eS l n < 256 := by
 unfold eS
 split
 ·omega
 ·rename_i c hc; exact (h c (aL3 n l c hc)).2
structure Bk where
 kind : Int
 banks : Int
 ram : Int
 on : Bool
 mode : Bool
 low : Int
 high : Int
 last : Int
deriving DecidableEq
def cBk (m : Bk) : AA := [.int .i64 m.kind, .int .i64 m.banks, .int .i64 m.ram, .bool m.on, .bool m.mode, .int .i64 m.low, .int .i64 m.high, .int .u8 m.last]
structure Bk.Ok (m : Bk) : Prop where
 kind : 0 ≤ m.kind ∧ m.kind < 256
 banks : 0 ≤ m.banks ∧ m.banks < 65536
 ram : 0 ≤ m.ram ∧ m.ram < 1048576
 low : 0 ≤ m.low ∧ m.low < 65536
 high : 0 ≤ m.high ∧ m.high < 65536
 last : 0 ≤ m.last ∧ m.last < 256
def aAj (x : Int) : Bool := decide (x % 16 = 10)
def oneB (a x : Int) (m : Bk) : Bk := if a / 8192 = 0 then { m with on := aAj x } else if a / 8192 = 1 then { m with low := max (x % 32) 1 } else if a / 8192 = 2 then { m with high := x % 4 } else { m with mode := decide (x % 2 = 1) }
def twoB (a x : Int) (m : Bk) : Bk := if 16384 ≤ a then m else if a / 256 % 2 = 0 then { m with on := aAj x } else { m with low := max (x % 16) 1 }
def threeB (a x : Int) (m : Bk) : Bk := if a / 8192 = 0 then { m with on := aAj x } else if a / 8192 = 1 then { m with low := max (x % 128) 1 } else if a / 8192 = 2 then { m with high := x % 16 } else { m with last := x }
def heldB (a x : Int) (m : Bk) : Bool := decide (¬ a / 8192 = 0 ∧ ¬ a / 8192 = 1 ∧ ¬ a / 8192 = 2 ∧ m.last = 0 ∧ x = 1)
def fiveB (a x : Int) (m : Bk) : Bk := if a / 4096 = 0 ∨ a / 4096 = 1 then { m with on := aAj x } else if a / 4096 = 2 then { m with low := m.low / 256 * 256 + x } else if a / 4096 = 3 then { m with low := m.low % 256 + x % 2 * 256 } else if a / 4096 = 4 ∨ a / 4096 = 5 then { m with high := x % 16 } else m
def writeB (a x : Int) (m : Bk) : Bk :=
 if m.kind = 1 then oneB (a % 32768) x m else if m.kind = 2 then twoB (a % 32768) x m else if m.kind = 3 then threeB (a % 32768) x m else if m.kind = 5 then fiveB (a % 32768) x m else m
def latchB (a x : Int) (m : Bk) : Bool := decide (m.kind = 3) && heldB (a % 32768) x m
def numB (a : Int) (m : Bk) : Int :=
 if m.kind = 0 then (if a / 16384 % 2 = 1 then 1 else 0)
 else if m.kind = 1 then (if a / 16384 % 2 = 1 then m.high * 32 + m.low else if m.mode = true then m.high * 32 else 0)
 else if m.kind = 2 ∨ m.kind = 3 ∨ m.kind = 5 then (if a / 16384 % 2 = 1 then m.low else 0) else 0
def bankB (a : Int) (m : Bk) : Int := if m.banks < 1 then 0 else numB a m % m.banks
def aBC (a : Int) (m : Bk) : Int := 16384 * bankB a m + a % 16384
def atB_ (a : Int) (m : Bk) : Option Int :=
 if a < 40960 ∨ 49152 ≤ a ∨ m.on = false ∨ m.ram < 1 then none
 else if m.kind = 0 then some (a % 8192 % m.ram)
 else if m.kind = 1 then some ((if m.mode = true then a % 8192 + 8192 * m.high else a % 8192) % m.ram)
 else if m.kind = 2 then some (a % 8192 % 512 % m.ram)
 else if m.kind = 3 then (if 3 < m.high then none else some ((a % 8192 + 8192 * m.high) % m.ram))
 else if m.kind = 5 then some ((a % 8192 + 8192 * m.high) % m.ram) else none
def clockB (m : Bk) : Option Int := if m.kind ≠ 3 ∨ m.on = false ∨ m.high < 8 ∨ 12 < m.high then none else some (m.high - 8)
def Bk.Ok.write {m : Bk} (h : m.Ok) (a : Int) {x : Int} (hx : 0 ≤ x ∧ x < 256) : (writeB a x m).Ok := by
 have h1 := h.low; have h2 := h.high
 have L : ∀ v, 0 ≤ v ∧ v < 65536 → ({ m with low := v } : Bk).Ok := fun v hv => ⟨h.kind, h.banks, h.ram, hv, h.high, h.last⟩
 have Hh : ∀ v, 0 ≤ v ∧ v < 65536 → ({ m with high := v } : Bk).Ok := fun v hv => ⟨h.kind, h.banks, h.ram, h.low, hv, h.last⟩
 have O : ∀ b, ({ m with on := b } : Bk).Ok := fun b => ⟨h.kind, h.banks, h.ram, h.low, h.high, h.last⟩
 unfold writeB
 split
 ·unfold oneB; split; exact O _; split; exact L _ o_m; split; exact Hh _ o_m; exact ⟨h.kind, h.banks, h.ram, h.low, h.high, h.last⟩
 split
 ·unfold twoB; split; exact h; split; exact O _; exact L _ o_m
 split
 ·unfold threeB; split; exact O _; split; exact L _ o_m; split; exact Hh _ o_m; exact ⟨h.kind, h.banks, h.ram, h.low, h.high, hx⟩
 split
 ·unfold fiveB; split; exact O _; split; exact L _ o_m; split; exact L _ o_m; split; exact Hh _ o_m; exact h
 ·exact h
def aBz (a x : Int) (m : Bk) : (writeB a x m).kind = m.kind ∧ (writeB a x m).banks = m.banks ∧ (writeB a x m).ram = m.ram := by
 unfold writeB oneB twoB threeB fiveB
 repeat' split
 all_goals exact ⟨rfl, rfl, rfl⟩
def aQn {m : Bk} (h : m.Ok) (a : Int) : 0 ≤ numB a m ∧ numB a m < 4194304 := by
 have h1 := h.low; have h2 := h.high
 unfold numB; repeat' split
 all_goals omega
def aFo {m : Bk} (h : m.Ok) (a : Int) : 0 ≤ bankB a m ∧ bankB a m ≤ m.banks ∧ (0 < m.banks → bankB a m < m.banks) := by
 have h1 := h.banks; have h2 := aQn h a
 unfold bankB
 split
 ·omega
 ·have h3 := et (numB a m) (show m.banks ≠ 0 by omega)
  have h4 := fh (numB a m) (show 0 < m.banks by omega)
  omega
def aFi {m : Bk} (a : Int) {n : Int} (hn : atB_ a m = some n) : 0 ≤ n ∧ n < m.ram := by
 have key : ∀ x : Int, 0 < m.ram → 0 ≤ x % m.ram ∧ x % m.ram < m.ram := fun x hr => ⟨et _ o_m, fh _ hr⟩
 unfold atB_ at hn
 split at hn
 ·cases hn
 ·rename_i hc
  have hr : 0 < m.ram := by omega
  repeat' split at hn
  all_goals first | cases hn; done | (cases hn; exact key _ hr)
structure Ck where
 s : Int
 m : Int
 h : Int
 day : Int
 sub : Int
 halt : Bool
 carry : Bool
 h0 : Int
 h1 : Int
 h2 : Int
 h3 : Int
 h4 : Int
deriving DecidableEq
def Ck.held (c : Ck) : AB := [c.h0, c.h1, c.h2, c.h3, c.h4]
def cCk (c : Ck) : AA := [.int .u8 c.s, .int .u8 c.m, .int .u8 c.h, .int .i64 c.day, .int .i64 c.sub, .bool c.halt, .bool c.carry, .int .u8 c.h0, .int .u8 c.h1, .int .u8 c.h2, .int .u8 c.h3, .int .u8 c.h4]
structure Ck.Fo (c : Ck) : Prop where
 s : 0 ≤ c.s ∧ c.s < 256
 m : 0 ≤ c.m ∧ c.m < 256
 h : 0 ≤ c.h ∧ c.h < 256
 day : -9223372036854775808 ≤ c.day ∧ c.day ≤ 9223372036854775807
 byH : aT c.held
structure Ck.Ok (c : Ck) : Prop extends Ck.Fo c where
 sub : 0 ≤ c.sub ∧ c.sub < 4294967296
def dayCk (c : Ck) : Ck := if IntKind.i64.wrap (c.day + 1) = 512 then { c with day := 0, carry := true } else { c with day := IntKind.i64.wrap (c.day + 1) }
def secCk (c : Ck) : Ck :=
 if (c.s + 1) % 64 ≠ 60 then { c with s := (c.s + 1) % 64 }
 else if (c.m + 1) % 64 ≠ 60 then { c with s := 0, m := (c.m + 1) % 64 }
 else if (c.h + 1) % 32 ≠ 24 then { c with s := 0, m := 0, h := (c.h + 1) % 32 }
 else dayCk { c with s := 0, m := 0, h := 0 }
def jU (c : Ck) : Nat → Ck
 | 0 => c
 | n + 1 => { secCk (jU c n) with sub := (jU c n).sub - 1048576 }
def tickCk (c : Ck) : Ck := if c.halt = true then c else jU { c with sub := c.sub + 1 } ((c.sub + 1) / 1048576).toNat
def iM (b : Bool) (n : Int) : Int := if b = true then n else 0
def uD (c : Ck) : Ck := { c with h0 := c.s, h1 := c.m, h2 := c.h, h3 := c.day % 256, h4 := c.day / 256 % 2 + iM c.halt 64 + iM c.carry 128 }
def uL (n : Int) (c : Ck) : Int := if n < 0 ∨ 5 ≤ n then 0 else c.held.getD n.toNat 0
def writeCk (n x : Int) (c : Ck) : Ck :=
 if n = 0 then { c with s := x % 64, sub := 0 } else if n = 1 then { c with m := x % 64 } else if n = 2 then { c with h := x % 32 }
 else if n = 3 then { c with day := c.day / 256 * 256 + x } else if n = 4 then { c with day := c.day % 256 + x % 2 * 256, halt := decide (x / 64 % 2 = 1), carry := decide (x / 128 = 1) } else c
def aBd (n : Int) : IntKind.i64.wrap n = (n + 9223372036854775808) % 18446744073709551616 - 9223372036854775808 := by
 simp [IntKind.wrap, IntKind.bits, IntKind.signed]; omega
def aIC (x : Int) : -9223372036854775808 ≤ IntKind.i64.wrap x ∧ IntKind.i64.wrap x ≤ 9223372036854775807 := by
 have := aBd x
 omega
def Ck.Fo.day_ {c : Ck} (h : c.Fo) : (dayCk c).Fo := by
 unfold dayCk
 split
 ·exact ⟨h.s, h.m, h.h, y_B, h.byH⟩
 ·exact ⟨h.s, h.m, h.h, aIC _, h.byH⟩
def Ck.Fo.sec {c : Ck} (h : c.Fo) : (secCk c).Fo := by
 unfold secCk
 split
 ·exact ⟨y_B, h.m, h.h, h.day, h.byH⟩
 split
 ·exact ⟨y_B, y_B, h.h, h.day, h.byH⟩
 split
 ·exact ⟨y_B, y_B, y_B, h.day, h.byH⟩
 ·exact Ck.Fo.day_ ⟨y_B, y_B, y_B, h.day, h.byH⟩
def zC (c : Ck) : ∀ n : Nat, (jU c n).sub = c.sub - 1048576 * n
 | 0 => by show c.sub = _; omega
 | n + 1 => by show (jU c n).sub - 1048576 = _; rw [zC c n]; omega
def Ck.Fo.sub_ {c : Ck} (h : c.Fo) (x : Int) : ({ c with sub := x } : Ck).Fo := ⟨h.s, h.m, h.h, h.day, h.byH⟩
def Ck.Fo.secs {c : Ck} (h : c.Fo) : ∀ n : Nat, (jU c n).Fo
 | 0 => h
 | n + 1 => (Ck.Fo.sec (h.secs n)).sub_ _
def Ck.Ok.tick {c : Ck} (h : c.Ok) : (tickCk c).Ok := by
 have h2 := h.sub
 unfold tickCk
 split
 ·exact h
 ·refine ⟨(h.toFo.sub_ _).secs _, ?_⟩
  rw [zC]
  dsimp only
  omega
def aFv (b : Bool) {n : Int} (h : 0 ≤ n) : 0 ≤ iM b n ∧ iM b n ≤ n := by unfold iM; split <;> omega
def Ck.Ok.hold {c : Ck} (h : c.Ok) : (uD c).Ok := by
 have h1 := aFv c.halt (n := 64) y_b; have h2 := aFv c.carry (n := 128) y_b
 refine ⟨⟨h.s, h.m, h.h, h.day, fun x hx => ?_⟩, h.sub⟩
 have h3 := h.s; have h4 := h.m; have h5 := h.h
 simp only [uD, Ck.held, d6, dz, or_false] at hx
 rcases hx with rfl | rfl | rfl | rfl | rfl <;> omega
def Ck.Ok.write {c : Ck} (h : c.Ok) (n : Int) {x : Int} (hx : 0 ≤ x ∧ x < 256) : (writeCk n x c).Ok := by
 have h1 := h.day
 unfold writeCk
 split
 ·exact ⟨⟨y_B, h.m, h.h, h.day, h.byH⟩, y_B⟩
 split
 ·exact ⟨⟨h.s, y_B, h.h, h.day, h.byH⟩, h.sub⟩
 split
 ·exact ⟨⟨h.s, h.m, y_B, h.day, h.byH⟩, h.sub⟩
 split
 ·exact ⟨⟨h.s, h.m, h.h, y_B, h.byH⟩, h.sub⟩
 split
 ·exact ⟨⟨h.s, h.m, h.h, y_B, h.byH⟩, h.sub⟩
 ·exact h
def aMD {c : Ck} (h : c.Ok) (n : Int) : 0 ≤ uL n c ∧ uL n c < 256 := by
 unfold uL; split; omega; exact h.byH.get _
def Ck.Dy (c : Ck) : Prop := 0 ≤ c.day ∧ c.day < 512
def Ck.Dy.sec {c : Ck} (h : c.Dy) : (secCk c).Dy := by
 have h1 : IntKind.i64.wrap (c.day + 1) = c.day + 1 := aL (by have := h.1; omega) (by have := h.2; omega)
 have h2 := h.1; have h3 := h.2
 unfold secCk dayCk
 dsimp only
 repeat' split
 all_goals first | exact h | (unfold Ck.Dy; dsimp only; omega)
def Ck.Dy.secs {c : Ck} (h : c.Dy) : ∀ n : Nat, (jU c n).Dy
 | 0 => h
 | n + 1 => (h.secs n).sec
def Ck.Dy.tick {c : Ck} (h : c.Dy) : (tickCk c).Dy := by
 unfold tickCk; split
 ·exact h
 ·exact Ck.Dy.secs (c := { c with sub := c.sub + 1 }) h _
def Ck.Dy.write {c : Ck} (h : c.Dy) (n : Int) {x : Int} (hx : 0 ≤ x ∧ x < 256) : (writeCk n x c).Dy := by
 have h2 := h.1; have h3 := h.2
 unfold writeCk
 repeat' split
 all_goals first | exact h | (unfold Ck.Dy; dsimp only; omega)
structure Vc where
 on : Bool
 len : Int
 lev : Int
 wait : Int
deriving DecidableEq
def cVc (v : Vc) : AA := [.bool v.on, .int .i64 v.len, .int .i64 v.lev, .int .i64 v.wait]
def tW (v : Vc) : (cVc v).length = 4 := rfl
structure Vc.Ok (v : Vc) : Prop where
 len : 0 ≤ v.len ∧ v.len < 65536
 lev : 0 ≤ v.lev ∧ v.lev < 65536
 wait : 0 ≤ v.wait ∧ v.wait < 65536
def vcZ : Vc := ⟨false, 0, 0, 0⟩
structure Bd where
 regs : AB
 on : Bool
 div : Int
 step : Int
 vs : List Vc
 pitch : Int
 slide : Int
 slides : Bool
deriving DecidableEq
def cBd (b : Bd) : AA := b.regs.map (.int .u8) ++ ([.bool b.on, .int .i64 b.div, .int .i64 b.step] ++ (aF cVc b.vs ++ [.int .i64 b.pitch, .int .i64 b.slide, .bool b.slides]))
structure Bd.Wf (b : Bd) : Prop where
 lR : b.regs.length = 48
 bR : aT b.regs
 lV : b.vs.length = 4
 div : 0 ≤ b.div ∧ b.div < 65536
 step : 0 ≤ b.step ∧ b.step < 65536
 oV : ∀ v ∈ b.vs, v.Ok
 pitch : 0 ≤ b.pitch ∧ b.pitch < 65536
 slide : 0 ≤ b.slide ∧ b.slide < 65536
def bdZ : Bd := ⟨List.replicate 48 0, false, 0, 0, List.replicate 4 vcZ, 0, 0, false⟩
def Bd.r (b : Bd) (n : Nat) : Int := b.regs.getD n 0
def Bd.v (b : Bd) (n : Nat) : Vc := b.vs.getD n vcZ
def Bd.setV (b : Bd) (n : Nat) (x : Vc) : Bd := { b with vs := b.vs.set n x }
def longest (v : Nat) : Int := if v = 2 then 256 else 64
def readyB (v : Nat) (b : Bd) : Bool := if v = 2 then decide (b.r 10 / 128 = 1) else decide (8 ≤ b.r (5 * v + 2))
def everyB (b : Bd) : Int := b.r 0 / 16 % 8
def byB (b : Bd) : Int := b.r 0 % 8
def bW (b : Bd) : Bd := { b with slide := if everyB b = 0 then 8 else everyB b }
def gM (b : Bd) : Int := if b.r 0 / 8 % 2 = 1 then b.pitch - b.pitch / 2 ^ (byB b).toNat else b.pitch + b.pitch / 2 ^ (byB b).toNat
def nZ (b : Bd) : Bool := decide (2047 < gM b)
def aIn (b : Bd) : Bd := b.setV 0 { b.v 0 with on := false }
def kV (b : Bd) : Bd := if nZ b = true then aIn b else b
def lenV (b : Bd) (v : Nat) (x : Vc) : Vc := if b.r (5 * v + 4) / 64 % 2 = 0 ∨ x.len = 0 then x else { x with len := x.len - 1, on := x.on && decide (0 < x.len - 1) }
def levV (b : Bd) (v : Nat) (x : Vc) : Vc :=
 if v = 2 ∨ b.r (5 * v + 2) % 8 = 0 then x
 else if 0 < x.wait - 1 then { x with wait := x.wait - 1 }
 else { x with wait := b.r (5 * v + 2) % 8, lev := if b.r (5 * v + 2) / 8 % 2 = 1 then min (x.lev + 1) 15 else max (x.lev - 1) 0 }
def turnV (f : Bd → Nat → Vc → Vc) (b : Bd) : Nat → Bd
 | 0 => b
 | n + 1 => (turnV f b n).setV n (f (turnV f b n) n ((turnV f b n).v n))
def xX (b : Bd) : Bd := turnV lenV b 4
def rV (b : Bd) : Bd := turnV levV b 4
def aCS (b : Bd) : Bd := { b with pitch := gM b, regs := (b.regs.set 3 (gM b % 256)).set 4 (b.r 4 / 8 * 8 + gM b / 256 % 8) }
def slideB (b : Bd) : Bd :=
 if b.slides = false then b
 else if 0 < b.slide - 1 then { b with slide := b.slide - 1 }
 else
  let c := bW { b with slide := b.slide - 1 }
  if everyB b = 0 then c else if nZ c = true then aIn c else if byB b = 0 then c else kV (aCS c)
def halfB (b : Bd) : Bd := if b.step % 2 = 0 then xX b else b
def beatB (b : Bd) : Bd := if b.step = 2 ∨ b.step = 6 then slideB (halfB b) else if b.step = 7 then rV (halfB b) else halfB b
def tickB (b : Bd) : Bd :=
 if b.on = false then b else if b.div + 1 < 2048 then { b with div := b.div + 1 }
 else { beatB { b with div := 0 } with step := (b.step + 1) % 8 }
def uX : AB := [0x80, 0x3f, 0, 0xff, 0xbf, 0xff, 0x3f, 0, 0xff, 0xbf, 0x7f, 0xff, 0x9f, 0xff, 0xbf, 0xff, 0xff, 0, 0, 0xbf, 0, 0, 0x70]
def onV (b : Bd) : Nat → Int
 | 0 => 112 + (if b.on = true then 128 else 0)
 | n + 1 => onV b n + (if (b.v n).on = true then 2 ^ n else 0)
def readB (n : Int) (b : Bd) : Int :=
 if n < 0 ∨ 48 ≤ n ∨ (22 < n ∧ n < 32) then 255 else if 32 ≤ n then b.r n.toNat else if n < 22 then bor .u8 (b.r n.toNat) (uX.getD n.toNat 0) else onV b 4
def aU (b : Bd) (v : Nat) : Vc := ⟨readyB v b, if (b.v v).len = 0 then longest v else (b.v v).len, b.r (5 * v + 2) / 16, b.r (5 * v + 2) % 8⟩
def kS (b : Bd) : Bd := { b with slides := decide (everyB b ≠ 0 ∨ byB b ≠ 0) }
def beginB (v : Nat) (b : Bd) : Bd :=
 let c := b.setV v (aU b v)
 if 0 < v then c
 else
  let d := kS (bW { c with pitch := c.r 3 + c.r 4 % 8 * 256 })
  if byB b = 0 then d else kV d
def offB (b : Bd) : Bd := { bdZ with div := b.div, step := b.step, regs := List.replicate 22 0 ++ b.regs.drop 22 }
def onB (b : Bd) : Bd := if b.on = true then b else { b with div := 0, step := 0, on := true }
def putB (n : Nat) (x : Int) (b : Bd) : Bd := { b with regs := b.regs.set n x }
def voiceB (n : Nat) (x : Int) (b : Bd) : Bd :=
 if n % 5 = 1 then b.setV (n / 5) { b.v (n / 5) with len := longest (n / 5) - x % longest (n / 5) }
 else if n % 5 = 4 then (if x / 128 = 1 then beginB (n / 5) b else b)
 else b.setV (n / 5) { b.v (n / 5) with on := (b.v (n / 5)).on && readyB (n / 5) b }
def writeBd (n x : Int) (b : Bd) : Bd :=
 if n < 0 ∨ 48 ≤ n then b
 else if n = 22 then (if x / 128 = 1 then onB b else offB b)
 else if b.on = false ∧ n < 32 then b
 else if 20 ≤ n then putB n.toNat x b else voiceB n.toNat x (putB n.toNat x b)
section
variable {b : Bd}
def Bd.Wf.r_ (h : b.Wf) (n : Nat) : 0 ≤ b.r n ∧ b.r n < 256 := h.bR.get n
def aLK : vcZ.Ok := ⟨y_eP, y_eP, y_eP⟩
def Bd.Wf.v_ (h : b.Wf) (n : Nat) : (b.v n).Ok := by
 unfold Bd.v
 by_cases hn : n < b.vs.length
 ·rw [Gd_, ak hn]; exact h.oV _ (eg hn)
 ·rw [Gd_, dm o_m]; exact aLK
def Bd.Wf.setV (h : b.Wf) (n : Nat) {x : Vc} (hx : x.Ok) : (b.setV n x).Wf := ⟨h.lR, h.bR, y_c7, h.div, h.step, fun v hv => by
 rcases ee hv with h1 | rfl
 ·exact h.oV v h1
 ·exact hx, h.pitch, h.slide⟩
def Bd.Wf.put (h : b.Wf) (n : Nat) {x : Int} (hx : 0 ≤ x ∧ x < 256) : (putB n x b).Wf := ⟨by show (b.regs.set n x).length = 48; rw [ca]; exact h.lR, fun y hy => by
 rcases ee hy with h1 | rfl
 ·exact h.bR y h1
 ·exact hx, h.lV, h.div, h.step, h.oV, h.pitch, h.slide⟩
def Bd.Wf.slide_ (h : b.Wf) {x : Int} (hx : 0 ≤ x ∧ x < 65536) : ({ b with slide := x } : Bd).Wf := ⟨h.lR, h.bR, h.lV, h.div, h.step, h.oV, h.pitch, hx⟩
def Bd.Wf.pitch_ (h : b.Wf) {x : Int} (hx : 0 ≤ x ∧ x < 65536) : ({ b with pitch := x } : Bd).Wf := ⟨h.lR, h.bR, h.lV, h.div, h.step, h.oV, hx, h.slide⟩
def Bd.Wf.div_ (h : b.Wf) {x : Int} (hx : 0 ≤ x ∧ x < 65536) : ({ b with div := x } : Bd).Wf := ⟨h.lR, h.bR, h.lV, hx, h.step, h.oV, h.pitch, h.slide⟩
def Bd.Wf.step_ (h : b.Wf) {x : Int} (hx : 0 ≤ x ∧ x < 65536) : ({ b with step := x } : Bd).Wf := ⟨h.lR, h.bR, h.lV, h.div, hx, h.oV, h.pitch, h.slide⟩
def rQ (b : Bd) : 0 ≤ everyB b ∧ everyB b < 8 := by unfold everyB; omega
def aJk (b : Bd) : 0 ≤ byB b ∧ byB b < 8 := by unfold byB; omega
def Bd.Wf.waitW (h : b.Wf) : (bW b).Wf := h.slide_ (by have := rQ b; split <;> omega)
def aDd {x : Int} (h : 0 ≤ x) (n : Nat) : 0 ≤ x / 2 ^ n ∧ x / 2 ^ n ≤ x := by
 have h2 : (0 : Int) < 2 ^ n := f8 y_b
 exact ⟨jv h o_m, jn _ h⟩
def aHI (h : b.Wf) : 0 ≤ gM b ∧ gM b < 131072 := by
 have h1 := h.pitch; have h2 := aDd h1.1 (byB b).toNat
 unfold gM; split <;> omega
def Bd.Wf.off0W (h : b.Wf) : (aIn b).Wf := h.setV 0 ⟨(h.v_ 0).len, (h.v_ 0).lev, (h.v_ 0).wait⟩
def Bd.Wf.checkW (h : b.Wf) : (kV b).Wf := by unfold kV; split; exact h.off0W; exact h
def aHA (b : Bd) (v : Nat) {x : Vc} (h : x.Ok) : (lenV b v x).Ok := by
 have h1 := h.len
 unfold lenV; split
 ·exact h
 ·exact ⟨y_B, h.lev, h.wait⟩
def aHR (b : Bd) (v : Nat) {x : Vc} (h : x.Ok) : (levV b v x).Ok := by
 have h1 := h.lev; have h2 := h.wait
 unfold levV; split
 ·exact h
 split
 ·exact ⟨h.len, h.lev, y_B⟩
 ·exact ⟨h.len, by dsimp only; split <;> omega, y_B⟩
def Bd.Wf.turn {f : Bd → Nat → Vc → Vc} (hf : ∀ b v x, Vc.Ok x → (f b v x).Ok) (h : b.Wf) : ∀ n, (turnV f b n).Wf
 | 0 => h
 | n + 1 => (h.turn hf n).setV n (hf _ _ _ ((h.turn hf n).v_ n))
def aHF (h : b.Wf) (hn : nZ b = false) : (aCS b).Wf := by
 have h1 := aHI h; have h4 := h.r_ 4
 have h2 : gM b ≤ 2047 := by unfold nZ at hn; have := c7 hn; omega
 have h3 : (putB 4 (b.r 4 / 8 * 8 + gM b / 256 % 8) (putB 3 (gM b % 256) b)).Wf := (h.put 3 o_m).put 4 o_m
 exact h3.pitch_ o_m
def Bd.Wf.slideW (h : b.Wf) : (slideB b).Wf := by
 have h1 := h.slide
 have hw : (bW { b with slide := b.slide - 1 }).Wf := by
  have := rQ b
  exact ⟨h.lR, h.bR, h.lV, h.div, h.step, h.oV, h.pitch, y_cg⟩
 unfold slideB
 split
 ·exact h
 split
 ·exact h.slide_ o_m
 dsimp only
 split
 ·exact hw
 split
 ·exact hw.off0W
 split
 ·exact hw
 ·exact (aHF hw (by simpa using ‹¬ nZ _ = true›)).checkW
def Bd.Wf.half (h : b.Wf) : (halfB b).Wf := by unfold halfB; split; exact h.turn aHA 4; exact h
def Bd.Wf.beat (h : b.Wf) : (beatB b).Wf := by
 unfold beatB; split; exact h.half.slideW; split; exact h.half.turn aHR 4; exact h.half
def Bd.Wf.tick (h : b.Wf) : (tickB b).Wf := by
 have h1 := h.div; have h2 := h.step
 unfold tickB
 split
 ·exact h
 split
 ·exact h.div_ o_m
 ·exact (h.div_ (x := 0) o_m).beat.step_ o_m
def aAu (h : b.Wf) (v : Nat) : (aU b v).Ok := by
 have h1 := h.r_ (5 * v + 2)
 refine ⟨?_, ?_, ?_⟩
 ·unfold aU longest; dsimp only; split
  ·split <;> omega
  ·exact (h.v_ v).len
 ·show 0 ≤ b.r (5 * v + 2) / 16 ∧ b.r (5 * v + 2) / 16 < 65536; omega
 ·show 0 ≤ b.r (5 * v + 2) % 8 ∧ b.r (5 * v + 2) % 8 < 65536; omega
def Bd.Wf.slidesW (h : b.Wf) : (kS b).Wf := ⟨h.lR, h.bR, h.lV, h.div, h.step, h.oV, h.pitch, h.slide⟩
def Bd.Wf.beginW (h : b.Wf) (v : Nat) : (beginB v b).Wf := by
 have hc := h.setV v (aAu h v)
 unfold beginB
 dsimp only
 split
 ·exact hc
 ·have h3 := hc.r_ 3
  have hd : (kS (bW { b.setV v (aU b v) with pitch := (b.setV v (aU b v)).r 3 + (b.setV v (aU b v)).r 4 % 8 * 256 })).Wf := (hc.pitch_ o_m).waitW.slidesW
  split
  ·exact hd
  ·exact hd.checkW
def bdZ_wf : bdZ.Wf := ⟨y_eP, fun x hx => by rw [(List.mem_replicate.1 hx).2]; decide, y_eP, y_eP, y_eP, fun v hv => by rw [(List.mem_replicate.1 hv).2]; exact aLK, y_eP, y_eP⟩
def Bd.Wf.off (h : b.Wf) : (offB b).Wf := ⟨by show (List.replicate 22 0 ++ b.regs.drop 22).length = 48; rw [La_, Ld_, h.lR, bz], fun x hx => by
 rcases List.mem_append.1 hx with h1 | h1
 ·rw [(List.mem_replicate.1 h1).2]; decide
 ·exact h.bR x (da h1), bdZ_wf.lV, h.div, h.step, bdZ_wf.oV, bdZ_wf.pitch, bdZ_wf.slide⟩
def Bd.Wf.onW (h : b.Wf) : (onB b).Wf := by unfold onB; split; exact h; exact ⟨h.lR, h.bR, h.lV, (show (0 : Int) ≤ 0 ∧ (0 : Int) < 65536 by decide), (show (0 : Int) ≤ 0 ∧ (0 : Int) < 65536 by decide), h.oV, h.pitch, h.slide⟩
def Bd.Wf.voice (h : b.Wf) (n : Nat) (x : Int) : (voiceB n x b).Wf := by
 have hv := h.v_ (n / 5)
 unfold voiceB
 split
 ·refine h.setV _ ⟨?_, hv.lev, hv.wait⟩
  unfold longest; dsimp only; split <;> omega
 split
 ·split
  ·exact h.beginW _
  ·exact h
 ·exact h.setV _ ⟨hv.len, hv.lev, hv.wait⟩
def Bd.Wf.write (h : b.Wf) (n : Int) {x : Int} (hx : 0 ≤ x ∧ x < 256) : (writeBd n x b).Wf := by
 unfold writeBd
 split
 ·exact h
 split
 ·split; exact h.onW; exact h.off
 split
 ·exact h
 split
 ·exact h.put _ hx
 ·exact (h.put _ hx).voice _ _
def aLX (b : Bd) : ∀ n : Nat, 112 ≤ onV b n ∧ onV b n ≤ 239 + 2 ^ n
 | 0 => by unfold onV; split <;> omega
 | n + 1 => by
  have h := aLX b n
  have h2 : (0 : Int) < 2 ^ n := f8 y_b
  have h3 : (2 : Int) ^ (n + 1) = 2 * 2 ^ n := by rw [Int.pow_succ, Int.mul_comm]
  unfold onV; rw [h3]; split <;> omega
def aO4 (h : b.Wf) (n : Int) : 0 ≤ readB n b ∧ readB n b < 256 := by
 unfold readB
 split; omega
 split; exact h.r_ _
 split; exact rY _ _
 have := aLX b 4
 omega
end
def dM (x n : Int) : Int := x / 2 ^ n.toNat % 2
def hgt (c : Int) : Int := if dM c 2 = 1 then 16 else 8
def vAt (l : AB) (n : Int) : Int := if 0 ≤ n ∧ n < l.length ∧ n < 8192 then l.getD n.toNat 0 else 0
def mH (l : AB) (tile x y : Int) : Int :=
 if tile < 0 ∨ 384 ≤ tile then 0 else dM (vAt l (16 * tile + 2 * (y % 8))) (7 - x % 8) + 2 * dM (vAt l (16 * tile + 2 * (y % 8) + 1)) (7 - x % 8)
def shd (p c : Int) : Int := p / 2 ^ (c % 4 * 2).toNat % 4
def aDp {n b : Int} (hb : 0 < b ∧ b ≤ 65536) : (IntKind.i64.wrap (n.tmod b + b)).tmod b = n % b := by
 have h1 : n.tmod b < b := Int.tmod_lt_of_pos n hb.1
 have h2 : -b < n.tmod b := by
  have := Int.lt_tmod_of_pos n hb.1
  omega
 rw [aL o_m o_m, Int.tmod_eq_emod_of_nonneg o_m]
 rw [Int.add_emod_right]
 by_cases h : 0 ≤ n
 ·rw [Int.tmod_eq_emod_of_nonneg h, Int.emod_emod_of_dvd _ (Int.dvd_refl b)]
 ·rw [Int.tmod_def]
  exact Int.sub_mul_emod_self_left n b (n.tdiv b)
def pR (x n : Int) : dM x n = 0 ∨ dM x n = 1 := by unfold dM; omega
def zS {l : AB} (h : aT l) (n : Int) : 0 ≤ vAt l n ∧ vAt l n < 256 := by
 unfold vAt; split
 ·exact h.get _
 ·omega
def aPu (y : Int) : aH .i64 y 7 = y % 8 := by
 have h : (BitVec.ofInt 64 y &&& BitVec.ofInt 64 7).toNat = (y % 18446744073709551616).toNat % 8 := by
  rw [gk]
  have h7 : (BitVec.ofInt 64 7).toNat = 2 ^ 3 - 1 := by decide
  rw [h7, er, ez]
  rfl
 show IntKind.i64.wrap ((BitVec.ofInt 64 y &&& BitVec.ofInt 64 7).toNat : Int) = _
 rw [h, aL o_m o_m]
 omega
def aPJ (x : Int) : IntKind.i64.wrap (7 - aH .i64 x 7) = 7 - x % 8 := by
 rw [aPu, aL o_m o_m]
def aTv (x : Int) : 0 ≤ IntKind.i64.wrap (7 - aH .i64 x 7) := by rw [aPJ]; omega
def aCd {t : Int} (y : Int) (h : 0 ≤ t ∧ t < 384) : IntKind.i64.wrap (IntKind.i64.wrap (16 * t) + IntKind.i64.wrap (2 * aH .i64 y 7)) = 16 * t + 2 * (y % 8) := by
 rw [aPu, aL (n := 16 * t) o_m o_m, aL (n := 2 * (y % 8)) o_m o_m, aL o_m o_m]
def aRb {t : Int} (y : Int) (h : 0 ≤ t ∧ t < 384) : 0 ≤ IntKind.i64.wrap (IntKind.i64.wrap (16 * t) + IntKind.i64.wrap (2 * aH .i64 y 7)) := by rw [aCd y h]; omega
def aD6 {t : Int} (y : Int) (h : 0 ≤ t ∧ t < 384) : IntKind.i64.wrap (IntKind.i64.wrap (IntKind.i64.wrap (16 * t) + IntKind.i64.wrap (2 * aH .i64 y 7)) + 1) = 16 * t + 2 * (y % 8) + 1 := by
 rw [aCd y h, aL o_m o_m]
def aMP {t : Int} (y : Int) (h : 0 ≤ t ∧ t < 384) : 0 ≤ IntKind.i64.wrap (IntKind.i64.wrap (IntKind.i64.wrap (16 * t) + IntKind.i64.wrap (2 * aH .i64 y 7)) + 1) := by rw [aD6 y h]; omega
def aGy {b n : Int} (h1 : 0 ≤ b ∧ b < 256) (h2 : 0 ≤ n ∧ n < 8) : aH .u8 (shr .u8 b n) 1 = dM b n := by
 have key : ∀ m : Fin 8, ∀ c : Fin 256, aH .u8 (shr .u8 (c.val : Int) (m.val : Int)) 1 = dM (c.val : Int) (m.val : Int) := by decide +kernel
 have := key ⟨n.toNat, y_y⟩ ⟨b.toNat, y_y⟩
 simp only at this
 rwa [dh h1.1, dh h2.1] at this
def aOj {x y : Int} (hx : x = 0 ∨ x = 1) (hy : y = 0 ∨ y = 1) : bor .u8 x (shl .u8 y 1) = x + 2 * y := by
 rcases hx with rfl | rfl <;> rcases hy with rfl | rfl <;> decide
def aOS {l : AB} (hl : aT l) {t : Int} (x y : Int) (h : 0 ≤ t ∧ t < 384) :
  bor .u8 (aH .u8 (shr .u8 (vAt l (IntKind.i64.wrap (IntKind.i64.wrap (16 * t) + IntKind.i64.wrap (2 * aH .i64 y 7)))) (IntKind.i64.wrap (7 - aH .i64 x 7))) 1)
   (shl .u8 (aH .u8 (shr .u8 (vAt l (IntKind.i64.wrap (IntKind.i64.wrap (IntKind.i64.wrap (16 * t) + IntKind.i64.wrap (2 * aH .i64 y 7)) + 1))) (IntKind.i64.wrap (7 - aH .i64 x 7))) 1) 1) = mH l t x y := by
 rw [aPJ, aD6 y h, aCd y h, aGy (zS hl _) o_m, aGy (zS hl _) o_m, aOj (pR _ _) (pR _ _)]
 rw [mH, if_neg o_m]
def aRp {l : AB} {n : Int} (h : 0 ≤ n ∧ n < l.length ∧ n < 8192) : l.getD n.toNat 0 = vAt l n := by rw [vAt, if_pos h]
def aQD {l : AB} {n : Int} (h : ¬ (0 ≤ n ∧ n < l.length ∧ n < 8192)) : 0 = vAt l n := by rw [vAt, if_neg h]
def aM5 {p c : Int} (hp : 0 ≤ p ∧ p < 256) (hc : 0 ≤ c ∧ c < 256) : aH .u8 (shr .u8 p (IntKind.u8.wrap (aH .u8 c 3 * 2))) 3 = shd p c := by
 have h1 : aH .u8 c 3 = c % 4 := by
  refine aX (p := fun c => aH .u8 c 3 = c % 4) ?_ hc.1 hc.2
  decide +kernel
 rw [h1, qX o_m o_m]
 have key : ∀ m : Fin 4, ∀ q : Fin 256, aH .u8 (shr .u8 (q.val : Int) ((m.val : Int) * 2)) 3 = (q.val : Int) / 2 ^ (2 * m.val) % 4 := by decide +kernel
 have := key ⟨(c % 4).toNat, y_y⟩ ⟨p.toNat, y_y⟩
 simp only at this
 rw [dh hp.1, dh o_m] at this
 rw [this, shd]
 congr 3
 omega
def aGi {l : AB} {t x y : Int} (h : t < 0 ∨ 384 ≤ t) : 0 = mH l t x y := by rw [mH, if_pos h]
def aF6 {c : Int} (hc : 0 ≤ c ∧ c < 256) {b : Bool} (h : (aH .u8 c 4 != 0) = b) : (bif b then (16 : Int) else 8) = hgt c := by
 subst h
 refine aX (p := fun c => (bif (aH .u8 c 4 != 0) then (16 : Int) else 8) = hgt c) ?_ hc.1 hc.2
 decide +kernel
def aDm (c : Int) : hgt c = 8 ∨ hgt c = 16 := by unfold hgt; split <;> simp
def oB (l : AB) (n : Int) (k : Nat) : Int := l.getD (4 * n.toNat + k) 0
def pV {l : AB} (h : aT l) (n : Int) (k : Nat) : 0 ≤ oB l n k ∧ oB l n k < 256 := h.get _
def pF (l : AB) (c y x0 tile how x line : Int) : Int :=
 if line < y ∨ y + hgt c ≤ line ∨ x < x0 ∨ x0 + 8 ≤ x then 0 else
 let row := if dM how 6 = 1 then hgt c - 1 - (line - y) else line - y
 let col := if dM how 5 = 1 then 7 - (x - x0) else x - x0
 mH l (if hgt c = 16 then tile / 2 * 2 + row / 8 else tile) col row
def aMs {c : Int} (hc : 0 ≤ c ∧ c < 256) : (aH .u8 c 64 != 0) = decide (dM c 6 = 1) := by
 refine aX (p := fun c => (aH .u8 c 64 != 0) = decide (dM c 6 = 1)) ?_ hc.1 hc.2
 decide +kernel
def aFT {c : Int} (hc : 0 ≤ c ∧ c < 256) : (aH .u8 c 32 != 0) = decide (dM c 5 = 1) := by
 refine aX (p := fun c => (aH .u8 c 32 != 0) = decide (dM c 5 = 1)) ?_ hc.1 hc.2
 decide +kernel
def aOm {t r : Int} (ht : 0 ≤ t ∧ t < 256) (hr : 0 ≤ r ∧ r < 16) : bor .i64 (hQ .i64 t 1) (shr .i64 r 3) = t / 2 * 2 + r / 8 := by
 have key : ∀ r : Fin 16, ∀ t : Fin 256, bor .i64 (hQ .i64 (t.val : Int) 1) (shr .i64 (r.val : Int) 3) = (t.val : Int) / 2 * 2 + (r.val : Int) / 8 := by decide +kernel
 have := key ⟨r.toNat, y_y⟩ ⟨t.toNat, y_y⟩
 simp only at this
 rwa [dh ht.1, dh hr.1] at this
def kY {l : AB} {c y x0 tile how x line : Int} (hy : -16 ≤ y ∧ y ≤ 240) (hx : -8 ≤ x0 ∧ x0 ≤ 248) (ht : 0 ≤ tile ∧ tile < 256) (hh : 0 ≤ how ∧ how < 256)
  (h1 : y ≤ line ∧ line < IntKind.i64.wrap (y + hgt c)) (h2 : x0 ≤ x ∧ x < IntKind.i64.wrap (x0 + 8)) {bu bt bh : Bool}
  (hu : (aH .u8 how 64 != 0) = bu) (htn : (aH .u8 how 32 != 0) = bt) (hth : decide (hgt c > 8) = bh) :
  mH l (bif bh then bor .i64 (hQ .i64 tile 1) (shr .i64 (bif bu then IntKind.i64.wrap (IntKind.i64.wrap (hgt c - 1) - IntKind.i64.wrap (line - y)) else IntKind.i64.wrap (line - y)) 3) else tile)
   (bif bt then IntKind.i64.wrap (7 - IntKind.i64.wrap (x - x0)) else IntKind.i64.wrap (x - x0))
   (bif bu then IntKind.i64.wrap (IntKind.i64.wrap (hgt c - 1) - IntKind.i64.wrap (line - y)) else IntKind.i64.wrap (line - y)) = pF l c y x0 tile how x line := by
 have hg := aDm c
 rw [aL (n := y + hgt c) o_m o_m] at h1
 rw [aL (n := x0 + 8) o_m o_m] at h2
 rw [aL (n := line - y) o_m o_m, aL (n := hgt c - 1) o_m o_m, aL (n := hgt c - 1 - (line - y)) o_m o_m, aL (n := x - x0) o_m o_m,
  aL (n := 7 - (x - x0)) o_m o_m]
 rw [aMs hh] at hu
 rw [aFT hh] at htn
 rw [pF, if_neg o_m]
 have hrow : (bif bu then hgt c - 1 - (line - y) else line - y) = (if dM how 6 = 1 then hgt c - 1 - (line - y) else line - y) := by
  subst hu; by_cases h : dM how 6 = 1 <;> simp [h]
 have hcol : (bif bt then 7 - (x - x0) else x - x0) = (if dM how 5 = 1 then 7 - (x - x0) else x - x0) := by
  subst htn; by_cases h : dM how 5 = 1 <;> simp [h]
 rw [hrow, hcol]
 have hr0 : 0 ≤ (if dM how 6 = 1 then hgt c - 1 - (line - y) else line - y) ∧ (if dM how 6 = 1 then hgt c - 1 - (line - y) else line - y) < 16 := by split <;> omega
 generalize (if dM how 6 = 1 then hgt c - 1 - (line - y) else line - y) = row at *
 rw [aOm ht hr0]
 subst hth
 rcases hg with hg | hg <;> simp [hg]
def aCT {l : AB} {c y x0 tile how x line : Int} (hy : -16 ≤ y ∧ y ≤ 240) (hx : -8 ≤ x0 ∧ x0 ≤ 248) (h : ¬ ((y ≤ line ∧ line < IntKind.i64.wrap (y + hgt c)) ∧ (x0 ≤ x ∧ x < IntKind.i64.wrap (x0 + 8)))) :
  0 = pF l c y x0 tile how x line := by
 have hg := aDm c
 rw [aL (n := y + hgt c) o_m o_m, aL (n := x0 + 8) o_m o_m] at h
 rw [pF, if_pos o_m]
def aMO {l : AB} {n : Int} (hn : 0 ≤ n ∧ n < 40) (h : 4 * n < (l.length : Int)) :
  aO [Value.int .u8 0, .int .u8 0, .int .u8 0, .int .u8 0] 0 ((((l.map U_).drop (4 * n).toNat).take (l.length - (4 * n).toNat)).take (min (l.length - (4 * n).toNat) 4)) =
   [.int .u8 (oB l n 0), .int .u8 (oB l n 1), .int .u8 (oB l n 2), .int .u8 (oB l n 3)] := by
 have e : (4 * n).toNat = 4 * n.toNat := by omega
 rw [e]
 generalize hm : n.toNat = m at *
 have hm2 : 4 * m < l.length := by omega
 have hd : ∀ k, (l.drop (4 * m)).getD k 0 = l.getD (4 * m + k) 0 := fun k => by simp [Gd_, dp]
 unfold oB
 rw [hm, ← hd 0, ← hd 1, ← hd 2, ← hd 3]
 have hlen : (l.drop (4 * m)).length = l.length - 4 * m := by simp
 simp only [← go, ← ew]
 rw [← hlen, c8 (av _)]
 match hq : l.drop (4 * m), hlen with
 | [], h0 => simp at h0; omega
 | [a], _ => rfl
 | [a, b], _ => rfl
 | [a, b, c], _ => rfl
 | a :: b :: c :: d :: r, _ =>
  have : min (a :: b :: c :: d :: r).length 4 = 4 := by simp
  rw [this]; rfl
def vB {l : AB} {n : Int} (hn : 0 ≤ n ∧ n < 40) (h : ¬ 4 * n < (l.length : Int)) (k : Nat) : 0 = oB l n k := by
 unfold oB
 rw [Gd_, dm o_m]; rfl
def aMr {l : AB} (hl : aT l) (n : Int) : (Value.agg #[.int .i64 n, .int .i64 (IntKind.i64.wrap (IntKind.i64.wrap (oB l n 0) - 16)), .int .i64 (IntKind.i64.wrap (IntKind.i64.wrap (oB l n 1) - 8)), .int .i64 (IntKind.i64.wrap (oB l n 2)), .int .u8 (oB l n 3)]) =
  .agg #[.int .i64 n, .int .i64 (oB l n 0 - 16), .int .i64 (oB l n 1 - 8), .int .i64 (oB l n 2), .int .u8 (oB l n 3)] := by
 have h0 := pV hl n 0
 have h1 := pV hl n 1
 have h2 := pV hl n 2
 rw [aL (n := oB l n 0) o_m o_m, aL (n := oB l n 0 - 16) o_m o_m, aL (n := oB l n 1) o_m o_m, aL (n := oB l n 1 - 8) o_m o_m, aL (n := oB l n 2) o_m o_m]
def aJy {l : AB} {n : Int} (hn : 0 ≤ n ∧ n < 40) (h : ¬ 4 * n < (l.length : Int)) :
  [Value.int .u8 0, .int .u8 0, .int .u8 0, .int .u8 0] = [.int .u8 (oB l n 0), .int .u8 (oB l n 1), .int .u8 (oB l n 2), .int .u8 (oB l n 3)] := by
 rw [← vB hn h 0, ← vB hn h 1, ← vB hn h 2, ← vB hn h 3]
def aBP (oam : AB) (c line : Int) (n : Nat) : Bool := decide (oB oam n 0 - 16 ≤ line) && decide (line < oB oam n 0 - 16 + hgt c)
def fN (oam : AB) (c line : Int) (k : Nat) : AB := ((List.range k).filter (aBP oam c line)).map (fun n : Nat => (n : Int))
def pB (oam : AB) (c line : Int) : AB := (fN oam c line 40).take 10
def aJV (oam : AB) (c line : Int) (k : Nat) : (fN oam c line k).length ≤ k := by
 simp only [fN, Lm_]
 have := gf (aBP oam c line) (List.range k)
 simpa using this
def aLn {oam : AB} {c line : Int} {k : Nat} (h : aBP oam c line k = true) : fN oam c line (k + 1) = fN oam c line k ++ [(k : Int)] := by
 simp [fN, d7, List.filter_append, h]
def aM9 {oam : AB} {c line : Int} {k : Nat} (h : aBP oam c line k = false) : fN oam c line (k + 1) = fN oam c line k := by
 simp [fN, d7, List.filter_append, h]
def aIe {oam : AB} (ho : aT oam) {c line : Int} {n : Nat} {b : Bool} (h : (decide (oB oam n 0 - 16 ≤ line) && decide (line < IntKind.i64.wrap (oB oam n 0 - 16 + hgt c))) = b) : aBP oam c line n = b := by
 have h0 := pV ho n 0
 have hg := aDm c
 rw [aL o_m o_m] at h
 exact h
def aQj {oam : AB} {c line : Int} {k : Nat} {v : AH} {G : aC} (h : aBP oam c line k = true) (hv : Vec 3 1 v ((fN oam c line k).length + 1) ((fN oam c line k).map (.int .i64) ++ [.int .i64 k]) G) :
  Vec 3 1 v (fN oam c line (k + 1)).length ((fN oam c line (k + 1)).map (.int .i64)) G := by
 rw [aLn h]; simpa using hv
def aTy {oam : AB} {c line : Int} {k : Nat} {v : AH} {G : aC} (h : aBP oam c line k = false) (hv : Vec 3 1 v (fN oam c line k).length ((fN oam c line k).map (.int .i64)) G) :
  Vec 3 1 v (fN oam c line (k + 1)).length ((fN oam c line (k + 1)).map (.int .i64)) G := by
 rw [aM9 h]; exact hv
def aOc (oam : AB) (c line : Int) : Vec 3 1 (.slice none 0 0) (fN oam c line 0).length ((fN oam c line 0).map (.int .i64)) [] := .nil
def zM (oam : AB) (c line : Int) : (pB oam c line).length = min (fN oam c line 40).length 10 := by rw [pB, Lt_, Nat.min_comm]
def aPj {α β : Type} (f : α → β) (l : List α) (r : List β) (n : Nat) (j : Nat) (v : β) (h : ((l.take n).map f)[j]? = some v) : (l.map f ++ r)[j]? = some v := by
 rw [ew, d8] at h
 split at h
 ·have hj : j < (l.map f).length := by
   rcases dk j (l.map f).length with h1 | h1
   ·exact h1
   ·rw [dm h1] at h; cases h
  rw [cx hj]; exact h
 ·cases h
def aLd (cap : Nat) : cut1 0 0 cap = 0 := by simp [cut1]
def aPc {oam : AB} {c line : Int} (hm : (fN oam c line 40).length = 0) : Lst .i64 (pB oam c line) (.slice none 0 0) [] := by
 have : pB oam c line = [] := cw (by rw [zM]; omega)
 rw [this]; exact .nil
def aON {oam : AB} {c line : Int} {n cap b : Nat} {xs sp : AA} (hm : (fN oam c line 40).length = n) (hx : (fN oam c line 40).map (Value.int .i64) = xs) (hle : n ≤ cap) :
  Lst .i64 (pB oam c line) (.slice (some ⟨b, cut1 0 0 cap, none⟩) (min n 10 - 0) (cap - 0)) [(b, blk (xs ++ sp) 3)] := by
 rw [aLd]
 refine Lst.of_row (by rw [zM]; omega) (by rw [zM]; omega) (fun j v hv => ?_)
 subst hx
 exact aPj _ _ _ _ j v hv
structure Vw where
 c : Int
 sx : Int
 sy : Int
 wx : Int
 wy : Int
def cV (v : Vw) : AA := [.int .u8 v.c, .int .u8 v.sx, .int .u8 v.sy, .int .u8 v.wx, .int .u8 v.wy]
structure Vw.Ok (v : Vw) : Prop where
 c : 0 ≤ v.c ∧ v.c < 256
 sx : 0 ≤ v.sx ∧ v.sx < 256
 sy : 0 ≤ v.sy ∧ v.sy < 256
 wx : 0 ≤ v.wx ∧ v.wx < 256
 wy : 0 ≤ v.wy ∧ v.wy < 256
def wM (c b : Int) : Int := if dM c 4 = 1 then b else if 127 < b then b else 256 + b
def vP (l : AB) (c n px py : Int) : Int := mH l (wM c (vAt l ((if dM c n = 1 then 7168 else 6144) + 32 * (py / 8) + px / 8))) px py
def aE2 (l : AB) (v : Vw) (x y : Int) : Int := vP l v.c 3 ((x + v.sx) % 256) ((y + v.sy) % 256)
def aJG (l : AB) (v : Vw) (x y : Int) : Int := vP l v.c 6 (x % 256) (y % 256)
def jZ (v : Vw) (line : Int) : Bool := decide (dM v.c 0 = 1) && (decide (dM v.c 5 = 1) && (decide (v.wy ≤ line) && decide (v.wx ≤ 166)))
def mS (l : AB) (v : Vw) (line own : Int) (x : Nat) : Int :=
 if dM v.c 0 = 1 then (if jZ v line = true ∧ 0 ≤ (x : Int) + 7 - v.wx then aJG l v ((x : Int) + 7 - v.wx) own else aE2 l v x line) else 0
def wC (l : AB) (v : Vw) (line own : Int) : AB := (List.range 160).map (mS l v line own)
def tLine_len (l : AB) (v : Vw) (line own : Int) : (wC l v line own).length = 160 := by simp [wC]
def aIM (l : AB) (v : Vw) (line own : Int) : (wC l v line own).map U_ = lB .u8 (mS l v line own) 160 160 := by simp [wC, aF3, jj, Function.comp_def]
def aUi (l : AB) (t x y : Int) : 0 ≤ mH l t x y ∧ mH l t x y < 4 := by
 unfold mH
 have h1 := pR (vAt l (16 * t + 2 * (y % 8))) (7 - x % 8)
 have h2 := pR (vAt l (16 * t + 2 * (y % 8) + 1)) (7 - x % 8)
 split <;> omega
def aJ8 (l : AB) (v : Vw) (line own : Int) (x : Nat) : 0 ≤ mS l v line own x ∧ mS l v line own x < 4 := by
 unfold mS aJG aE2 vP
 split
 ·split <;> exact aUi _ _ _ _
 ·omega
def tLine_byts (l : AB) (v : Vw) (line own : Int) : aT (wC l v line own) := fun x hx => by
 obtain ⟨k, _, rfl⟩ := List.mem_map.1 hx
 have := aJ8 l v line own k
 omega
def aFK {c : Int} (hc : 0 ≤ c ∧ c < 256) : (aH .u8 c 1 == 0) = decide (dM c 0 = 0) :=
 aX (p := fun c => (aH .u8 c 1 == 0) = decide (dM c 0 = 0)) y_z hc.1 hc.2
def aTB {c : Int} (hc : 0 ≤ c ∧ c < 256) : (aH .u8 c 8 != 0) = decide (dM c 3 = 1) :=
 aX (p := fun c => (aH .u8 c 8 != 0) = decide (dM c 3 = 1)) y_z hc.1 hc.2
def aKb {c : Int} (hc : 0 ≤ c ∧ c < 256) : (aH .u8 c 16 != 0) = decide (dM c 4 = 1) :=
 aX (p := fun c => (aH .u8 c 16 != 0) = decide (dM c 4 = 1)) y_z hc.1 hc.2
def aND {b : Int} (hb : 0 ≤ b ∧ b < 256) : IntKind.i64.wrap (256 + IntKind.i64.wrap (IntKind.i8.wrap b)) = if 127 < b then b else 256 + b :=
 aX (p := fun b => IntKind.i64.wrap (256 + IntKind.i64.wrap (IntKind.i8.wrap b)) = if 127 < b then b else 256 + b) y_z hb.1 hb.2
def aNX {c b : Int} (h : dM c 4 = 1) : wM c b = b := by unfold wM; rw [if_pos h]
def aRj {c b : Int} (h : ¬ dM c 4 = 1) : wM c b = if 127 < b then b else 256 + b := by unfold wM; rw [if_neg h]
def aQz {l : AB} {v : Vw} {line own : Int} (x : Nat) (h : dM v.c 0 = 0) : mS l v line own x = 0 := by unfold mS; rw [if_neg o_m]
def aQ8 {l : AB} {v : Vw} {line own : Int} {x : Nat} (h : dM v.c 0 = 1) (hs : jZ v line = true) (hx : 0 ≤ (x : Int) + 7 - v.wx) : aJG l v ((x : Int) + 7 - v.wx) own = mS l v line own x := by
 unfold mS; rw [if_pos h, if_pos ⟨hs, hx⟩]
def aGv {l : AB} {v : Vw} {line own : Int} {x : Nat} (h : dM v.c 0 = 1) (hs : ¬ (jZ v line = true ∧ 0 ≤ (x : Int) + 7 - v.wx)) : aE2 l v x line = mS l v line own x := by
 unfold mS; rw [if_pos h, if_neg hs]
def aKI {l : AB} {v : Vw} {line own : Int} (h : dM v.c 0 = 0) : wC l v line own = List.replicate 160 0 := by
 refine List.eq_replicate_iff.2 ⟨tLine_len _ _ _ _, fun x hx => ?_⟩
 obtain ⟨k, _, rfl⟩ := List.mem_map.1 hx
 exact aQz _ h
def aMp {v : Vw} {line : Int} (h : dM v.c 0 = 0) : jZ v line = false := by unfold jZ; rw [h]; rfl
def aPX {c b : Int} (hc : 0 ≤ c ∧ c < 256) (hb : 0 ≤ b ∧ b < 256) (h : (aH .u8 c 16 != 0) = true) : IntKind.i64.wrap b = wM c b := by
 rw [aKb hc] at h
 rw [aL o_m o_m, aNX (by simpa using h)]
def aR2 {c b : Int} (hc : 0 ≤ c ∧ c < 256) (hb : 0 ≤ b ∧ b < 256) (h : (aH .u8 c 16 != 0) = false) : IntKind.i64.wrap (256 + IntKind.i64.wrap (IntKind.i8.wrap b)) = wM c b := by
 rw [aKb hc] at h
 rw [aND hb, aRj (by simpa using h)]
def aKx {l : AB} {c n px py : Int} (h : dM c n = 1) : vP l c n px py = mH l (wM c (vAt l (7168 + 32 * (py / 8) + px / 8))) px py := by unfold vP; rw [if_pos h]
def aNQ {l : AB} {c n px py : Int} (h : ¬ dM c n = 1) : vP l c n px py = mH l (wM c (vAt l (6144 + 32 * (py / 8) + px / 8))) px py := by unfold vP; rw [if_neg h]
def vJ {x : Int} (h : 0 ≤ x ∧ x < 256) : IntKind.u8.wrap (x.tdiv 8) = x / 8 := by
 rw [ja h.1, qX o_m o_m]
def aC1 (x : Int) : 0 ≤ x % 256 ∧ x % 256 < 256 := by omega
def aSL {v : Vw} {line : Int} (hv : v.Ok) (h : (aH .u8 v.c 32 != 0) = false) : false = jZ v line := by
 rw [aFT hv.c] at h
 unfold jZ; rw [h]; simp
def aSp {v : Vw} {line : Int} (h : decide (v.wy ≤ line) = false) : false = jZ v line := by
 unfold jZ; rw [h]; simp
def aR5 {v : Vw} {line : Int} (hv : v.Ok) (h0 : (aH .u8 v.c 1 == 0) = false) (h : (aH .u8 v.c 32 != 0) = true) (h2 : decide (v.wy ≤ line) = true) : decide (v.wx ≤ 166) = jZ v line := by
 rw [aFT hv.c] at h
 rw [aFK hv.c] at h0
 have h1 : dM v.c 0 = 1 := by have := pR v.c 0; simp at h0; omega
 unfold jZ; rw [h, h2, h1]; simp
def aQW {c : Int} (hc : 0 ≤ c ∧ c < 256) (h0 : (aH .u8 c 1 == 0) = false) : dM c 0 = 1 := by
 rw [aFK hc] at h0
 have := pR c 0
 simp at h0; omega
def aFB {c : Int} (hc : 0 ≤ c ∧ c < 256) (h0 : (aH .u8 c 1 == 0) = true) : dM c 0 = 0 := by
 rw [aFK hc] at h0; simpa using h0
structure Sp where
 n : Int
 y : Int
 x : Int
 t : Int
 h : Int
def spc (s : Sp) : AA := [.int .i64 s.n, .int .i64 s.y, .int .i64 s.x, .int .i64 s.t, .int .u8 s.h]
def jL (s : Sp) : (spc s).length = 5 := rfl
def sp (oam : AB) (n : Int) : Sp := ⟨n, oB oam n 0 - 16, oB oam n 1 - 8, oB oam n 2, oB oam n 3⟩
def cmpI (a b : Int) : Int := if a < b then -1 else if b < a then 1 else 0
def aHJ (a b : Int) : decide (cmpI a b < 0) = decide (a < b) := by
 unfold cmpI; split
 ·simp_all
 ·split <;> simp_all
def iX (e : Sp) : List Sp → List Sp → List Sp
 | [], B => e :: B
 | a :: ra, B => if e.x < a.x then iX e ra (a :: B) else (a :: ra).reverse ++ e :: B
def fK (l : List Sp) : List Sp := l.foldl (fun S e => iX e S.reverse []) []
def aMI (e a : Sp) (A B : List Sp) (h : e.x < a.x) : iX e (A ++ [a]).reverse B = iX e A.reverse (a :: B) := by simp [iX, h]
def aKl (e a : Sp) (A B : List Sp) (h : ¬ e.x < a.x) : iX e (A ++ [a]).reverse B = (A ++ [a]) ++ e :: B := by simp [iX, h]
def aPa (e : Sp) (ra B : List Sp) : (iX e ra B).length = ra.length + 1 + B.length := by
 induction ra generalizing B with
 | nil => simp [iX]; omega
 | cons a ra ih =>
  simp only [iX]
  split
  ·rw [ih]; simp; omega
  ·simp; omega
def aJM (l : List Sp) (e : Sp) : fK (l ++ [e]) = iX e (fK l).reverse [] := by simp [fK]
def aEK (l : List Sp) : (fK l).length = l.length := by
 suffices h : ∀ (l S : List Sp), (l.foldl (fun S e => iX e S.reverse []) S).length = S.length + l.length by simpa [fK] using h l []
 intro l
 induction l with
 | nil => simp
 | cons a l ih => intro S; rw [iq, ih, aPa]; simp; omega
def aKp (l : List Sp) : fK (l.take 1) ++ l.drop 1 = l := by
 cases l with
 | nil => rfl
 | cons a l => simp [fK, iX]
def aJp {l : List Sp} {i : Nat} (hi : i < l.length) : fK (l.take (i + 1)) = iX l[i] (fK (l.take i)).reverse [] := by
 rw [eo hi, aJM]
def aI1 (e : Sp) (ra B : List Sp) : ∃ A M, ra.reverse = A ++ M ∧ iX e ra B = A ++ e :: (M ++ B) ∧ (∀ b ∈ M, e.x < b.x) ∧ (A = [] ∨ ∃ A' a, A = A' ++ [a] ∧ ¬ e.x < a.x) := by
 induction ra generalizing B with
 | nil => exact ⟨[], [], rfl, rfl, y_eR, .inl rfl⟩
 | cons a ra ih =>
  by_cases h : e.x < a.x
  ·obtain ⟨A, M, h1, h2, h3, h4⟩ := ih (a :: B)
   refine ⟨A, M ++ [a], by rw [List.reverse_cons, h1, As_], by simp only [iX, if_pos h, h2]; simp, ?_, h4⟩
   intro b hb
   rcases List.mem_append.1 hb with hb | hb
   ·exact h3 b hb
   ·simp only [gw] at hb; subst hb; exact h
  ·exact ⟨(a :: ra).reverse, [], y_eR, by simp [iX, h], y_eR, .inr ⟨ra.reverse, a, y_eR, h⟩⟩
def aJ7 {l : List Sp} {i : Nat} (h : l.length ≤ i) : fK (l.take i) ++ l.drop i = fK l := by
 rw [c8 h, ga h, bg]
def aGn {e : Sp} {A B R S : List Sp} (h : A = [] ∨ ∃ A' x, A = A' ++ [x] ∧ ¬ e.x < x.x) (hI : iX e A.reverse B = iX e S.reverse []) : A ++ e :: (B ++ R) = iX e S.reverse [] ++ R := by
 rw [← hI]
 rcases h with rfl | ⟨A', x, rfl, hx⟩
 ·simp [iX]
 ·rw [aKl e x A' B hx]; simp
def uO (s : Sp) : Prop := (-16 ≤ s.y ∧ s.y ≤ 240) ∧ (-8 ≤ s.x ∧ s.x ≤ 248) ∧ (0 ≤ s.t ∧ s.t < 256) ∧ (0 ≤ s.h ∧ s.h < 256)
def aUf {oam : AB} (ho : aT oam) (n : Int) : uO (sp oam n) := by
 have h0 := pV ho n 0
 have h1 := pV ho n 1
 have h2 := pV ho n 2
 have h3 := pV ho n 3
 unfold uO sp
 simp only
 omega
def hit (l : AB) (c x line : Int) (s : Sp) : Bool := pF l c s.y s.x s.t s.h x line != 0
def qE (l : AB) (c bk f s2 x line below : Int) : Option Sp → Int
 | none => shd bk below
 | some s => if dM s.h 7 = 1 ∧ below % 4 ≠ 0 then shd bk below else if dM s.h 4 = 1 then shd s2 (pF l c s.y s.x s.t s.h x line) else shd f (pF l c s.y s.x s.t s.h x line)
def aD5 {q : Sp → Bool} {l : List Sp} {k : Nat} {s : Sp} (h : (l.take k).find? q = none) (hs : l[k]? = some s) (hq : q s = true) : l.find? q = some s := by
 obtain ⟨hk, he⟩ := List.getElem?_eq_some_iff.1 hs
 rw [uJ hk, List.find?_append, h, he]
 simp [hq]
def aRt {q : Sp → Bool} {l : List Sp} {k : Nat} {s : Sp} (h : (l.take k).find? q = none) (hs : l[k]? = some s) (hq : q s = false) : (l.take (k + 1)).find? q = none := by
 obtain ⟨hk, he⟩ := List.getElem?_eq_some_iff.1 hs
 rw [eo hk, List.find?_append, h, he]
 simp [hq]
def aEN {h : Int} (hh : 0 ≤ h ∧ h < 256) : (aH .u8 h 128 != 0) = decide (dM h 7 = 1) := by
 refine aX (p := fun c => (aH .u8 c 128 != 0) = decide (dM c 7 = 1)) ?_ hh.1 hh.2
 decide +kernel
def aLc {h : Int} (hh : 0 ≤ h ∧ h < 256) : (aH .u8 h 16 != 0) = decide (dM h 4 = 1) := by
 refine aX (p := fun c => (aH .u8 c 16 != 0) = decide (dM c 4 = 1)) ?_ hh.1 hh.2
 decide +kernel
def aPG {h : Int} (hh : 0 ≤ h ∧ h < 256) : (aH .u8 h 3 != 0) = decide (h % 4 ≠ 0) := by
 refine aX (p := fun c => (aH .u8 c 3 != 0) = decide (c % 4 ≠ 0)) ?_ hh.1 hh.2
 decide +kernel
def vZ (l : AB) (c y x0 t h X L : Int) : 0 ≤ pF l c y x0 t h X L ∧ pF l c y x0 t h X L < 256 := by
 unfold pF
 split
 ·omega
 ·have h4 : ∀ a b d, 0 ≤ mH l a b d ∧ mH l a b d < 4 := fun a b d => by
   unfold mH
   split
   ·omega
   ·have := pR (vAt l (16 * a + 2 * (d % 8))) (7 - b % 8)
    have := pR (vAt l (16 * a + 2 * (d % 8) + 1)) (7 - b % 8)
    omega
  have := h4 (if hgt c = 16 then t / 2 * 2 + (if dM h 6 = 1 then hgt c - 1 - (L - y) else L - y) / 8 else t) (if dM h 5 = 1 then 7 - (X - x0) else X - x0) (if dM h 6 = 1 then hgt c - 1 - (L - y) else L - y)
  show 0 ≤ mH _ _ _ _ ∧ mH _ _ _ _ < 256
  omega
def aLl {l : AB} {c bk f s2 x line below : Int} {L : List Sp} {s : Sp} {k : Nat} (hs : L[k]? = some s) (ho : uO s) (hb : 0 ≤ below ∧ below < 256) (hn : (L.take k).find? (hit l c x line) = none) (h0 : (pF l c s.y s.x s.t s.h x line == 0) = false)
  (h1 : (aH .u8 s.h 128 != 0) = true) (h2 : (aH .u8 below 3 != 0) = true) : shd bk below = qE l c bk f s2 x line below (L.find? (hit l c x line)) := by
 rw [aD5 hn hs (by simp [hit, bne, h0])]
 rw [aEN ho.2.2.2, decide_eq_true_eq] at h1
 rw [aPG hb, decide_eq_true_eq] at h2
 simp [qE, h1, h2]
def tI {l : AB} {c bk f s2 x line below : Int} {L : List Sp} {s : Sp} {k : Nat} {b4 : Bool} (hs : L[k]? = some s) (ho : uO s) (hb : 0 ≤ below ∧ below < 256) (hn : (L.take k).find? (hit l c x line) = none) (h0 : (pF l c s.y s.x s.t s.h x line == 0) = false)
  (h1 : (aH .u8 s.h 128 != 0) = false ∨ (aH .u8 below 3 != 0) = false) (h4 : (aH .u8 s.h 16 != 0) = b4) :
  (bif b4 then shd s2 (pF l c s.y s.x s.t s.h x line) else shd f (pF l c s.y s.x s.t s.h x line)) = qE l c bk f s2 x line below (L.find? (hit l c x line)) := by
 rw [aD5 hn hs (by simp [hit, bne, h0])]
 rw [aEN ho.2.2.2, decide_eq_false_iff_not, aPG hb, decide_eq_false_iff_not] at h1
 rw [aLc ho.2.2.2] at h4
 have : ¬ (dM s.h 7 = 1 ∧ below % 4 ≠ 0) := by rcases h1 with h1 | h1 <;> simp_all
 simp only [qE, if_neg this]
 subst h4
 by_cases h : dM s.h 4 = 1 <;> simp [h]
def aIv {l : AB} {c bk f s2 x line below : Int} {L : List Sp} {k : Nat} (hk : L.length ≤ k) (hn : (L.take k).find? (hit l c x line) = none) : shd bk below = qE l c bk f s2 x line below (L.find? (hit l c x line)) := by
 rw [c8 hk] at hn
 rw [hn]; rfl
def aIY {oam : AB} {c line : Int} : ∀ n ∈ pB oam c line, 0 ≤ n ∧ n < 40 := by
 intro n hn
 have := cu hn
 simp only [fN, iv, List.mem_filter, gd] at this
 obtain ⟨m, ⟨h1, _⟩, rfl⟩ := this
 omega
def aFC (oam : AB) (c line : Int) : (pB oam c line).length ≤ 10 := by rw [zM]; omega
def jN (oam : AB) (c line : Int) : List Sp := if dM c 1 = 1 then (pB oam c line).map (sp oam) else []
def aPD {h : Int} (hh : 0 ≤ h ∧ h < 256) : (aH .u8 h 2 != 0) = decide (dM h 1 = 1) := by
 refine aX (p := fun c => (aH .u8 c 2 != 0) = decide (dM c 1 = 1)) ?_ hh.1 hh.2
 decide +kernel
def aKg {oam : AB} {c line : Int} (hc : 0 ≤ c ∧ c < 256) (h : (aH .u8 c 2 != 0) = true) : jN oam c line = (pB oam c line).map (sp oam) := by
 rw [aPD hc, decide_eq_true_eq] at h; rw [jN, if_pos h]
def aOs {oam : AB} {c line : Int} (hc : 0 ≤ c ∧ c < 256) (h : (aH .u8 c 2 != 0) = false) : jN oam c line = [] := by
 rw [aPD hc, decide_eq_false_iff_not] at h; rw [jN, if_neg h]
def aEG (oam : AB) (c line : Int) : (jN oam c line).length ≤ 10 := by
 unfold jN; split
 ·rw [Lm_]; exact aFC _ _ _
 ·simp
def aN9 {oam : AB} (ho : aT oam) (c line : Int) : ∀ s ∈ fK (jN oam c line), uO s := by
 have key : ∀ l : List Sp, (∀ s ∈ l, uO s) → ∀ s ∈ fK l, uO s := by
  intro l
  suffices h : ∀ (l S : List Sp), (∀ s ∈ S, uO s) → (∀ s ∈ l, uO s) → ∀ s ∈ l.foldl (fun S e => iX e S.reverse []) S, uO s from h l [] y_r
  intro l
  induction l with
  | nil => exact fun S hS _ => hS
  | cons a l ih =>
   intro S hS hl
   refine ih _ ?_ (fun s hs => hl s (by simp [hs]))
   obtain ⟨A, M, h1, h2, _, _⟩ := aI1 a S.reverse []
   simp only [h2]
   rw [List.reverse_reverse] at h1
   intro s hs
   simp only [bg, ip, d6] at hs
   rcases hs with hs | rfl | hs
   ·exact hS s (by rw [h1]; simp [hs])
   ·exact hl s y_r
   ·exact hS s (by rw [h1]; simp [hs])
 refine key _ ?_
 unfold jN; split
 ·intro s hs
  obtain ⟨n, _, rfl⟩ := List.mem_map.1 hs
  exact aUf ho n
 ·simp
def aLm {oam : AB} {l : AB} {k : Nat} (hk : k < l.length) : aF spc ((l.take (k + 1)).map (sp oam)) = aF spc ((l.take k).map (sp oam)) ++ spc (sp oam (l.getD k 0)) := by
 rw [eo hk, be, ce, cz, jI, Gd_, ak hk]; rfl
def vX (l oam : AB) (c bk f s2 line : Int) (bl : AB) (i : Nat) : Int := qE l c bk f s2 i line (bl.getD i 0) ((fK (jN oam c line)).find? (hit l c i line))
def aIx (l oam : AB) (c bk f s2 line : Int) (bl : AB) : AA := (List.range 160).map (fun i => Value.int .u8 (vX l oam c bk f s2 line bl i))
def aNA {l : AB} {k : Nat} (h : k < l.length) : l.getD k 0 ∈ l := by
 rw [Gd_, ak h]; exact eg h
structure PU where
 V : AB
 O : AB
 R : AB
 line : Int
 dot : Int
 own : Int
 frames : Int
 sig : Bool
 P : AB
def cU (u : PU) : AA := u.V.map (.int .u8) ++ (u.O.map (.int .u8) ++ (u.R.map (.int .u8) ++ ([.int .i64 u.line, .int .i64 u.dot, .int .i64 u.own, .int .i64 u.frames, .bool u.sig] ++ u.P.map (.int .u8))))
abbrev PU.r (u : PU) (j : Nat) : Int := u.R.getD j 0
structure PU.Wf (u : PU) : Prop where
 lV : u.V.length = 8192
 lO : u.O.length = 160
 lR : u.R.length = 12
 lP : u.P.length = 23040
 bV : aT u.V
 bO : aT u.O
 bR : aT u.R
 bP : aT u.P
 line : 0 ≤ u.line ∧ u.line ≤ 154
 dot : 0 ≤ u.dot ∧ u.dot ≤ 114
 own : 0 ≤ u.own ∧ u.own ≤ 600
 frames : 0 ≤ u.frames ∧ u.frames < 65536
 how : aH .u8 (u.R.getD 1 0) 120 = u.R.getD 1 0
structure PU.Ok (u : PU) : Prop where
 wf : u.Wf
 line : u.line < 154
 dot : u.dot < 114
 own : u.own ≤ 255 + u.line + (if 63 ≤ u.dot then 1 else 0)
def cU_len {u : PU} (h : u.Wf) : (cU u).length = 31409 := by
 simp [cU, h.lV, h.lO, h.lR, h.lP]
section
variable {u : PU}
def aUZ (h : u.Wf) {j : Nat} (hj : j < 8192) : (cU u)[j]? = some (.int .u8 (u.V.getD j 0)) := eI (cX (by rw [h.lV]; exact hj))
def aU7 (h : u.Wf) {j : Nat} (hj : j < 160) : (cU u)[8192 + j]? = some (.int .u8 (u.O.getD j 0)) :=
 bU (n := j) y_cQ (eI (cX (by rw [h.lO]; exact hj)))
def qJ (h : u.Wf) {j : Nat} (hj : j < 12) : (cU u)[8352 + j]? = some (.int .u8 (u.R.getD j 0)) :=
 bU (n := 160 + j) y_bw (bU (n := j) y_cR (eI (cX y_cL)))
def wZ (h : u.Wf) {j : Nat} {v : AH} (hv : ([.int .i64 u.line, .int .i64 u.dot, .int .i64 u.own, .int .i64 u.frames, .bool u.sig] : AA)[j]? = some v) : (cU u)[8364 + j]? = some v :=
 bU (n := 172 + j) y_bw (bU (n := 12 + j) y_cn (bU (n := j) y_cC (eI hv)))
def cU_line (h : u.Wf) : (cU u)[8364]? = some (.int .i64 u.line) := wZ h (j := 0) rfl
def cU_dot (h : u.Wf) : (cU u)[8365]? = some (.int .i64 u.dot) := wZ h (j := 1) rfl
def aCN (h : u.Wf) : (cU u)[8366]? = some (.int .i64 u.own) := wZ h (j := 2) rfl
def aAx (h : u.Wf) : (cU u)[8367]? = some (.int .i64 u.frames) := wZ h (j := 3) rfl
def cU_sig (h : u.Wf) : (cU u)[8368]? = some (.bool u.sig) := wZ h (j := 4) rfl
def rowV {w : AI} {b : Nat} (hr : Row w b 0 (cU u)) : Row w b 0 (u.V.map (.int .u8)) := hr.left
def rowO (h : u.Wf) {w : AI} {b : Nat} (hr : Row w b 0 (cU u)) : Row w b 8192 (u.O.map (.int .u8)) :=
 (hr.right (n := 8192) y_cQ).left
def aUY (h : u.Wf) {w : AI} {b : Nat} (hr : Row w b 0 (cU u)) : Row w b 8352 (u.R.map (.int .u8)) :=
 ((hr.right (n := 8192) y_cQ).right (n := 8352) y_cR).left
def aUV (h : u.Wf) {w : AI} {b : Nat} (hr : Row w b 0 (cU u)) : Row w b 8369 (u.P.map (.int .u8)) :=
 (((hr.right (n := 8192) y_cQ).right (n := 8352) y_cR).right (n := 8364) y_cC).right (n := 8369) rfl
def aTw (h : u.Wf) {j : Nat} (hj : j < 8192) (x : Int) : aO (cU u) j [.int .u8 x] = cU { u with V := u.V.set j x } := by
 unfold cU
 rw [eA (by simp [h.lV]; omega), jM .u8 (by rw [h.lV]; exact hj)]
def aMj (h : u.Wf) {j : Nat} (hj : j < 160) (x : Int) : aO (cU u) (8192 + j) [.int .u8 x] = cU { u with O := u.O.set j x } := by
 unfold cU
 rw [aZ (n := j) y_cQ y_dq, eA y_dq, jM .u8 (by rw [h.lO]; exact hj)]
def aKU (h : u.Wf) {j : Nat} (hj : j < 12) (x : Int) : aO (cU u) (8352 + j) [.int .u8 x] = cU { u with R := u.R.set j x } := by
 unfold cU
 rw [aZ (n := 160 + j) y_bw y_cO, aZ (n := j) y_cR y_cy, eA y_cy, jM .u8 y_cL]
def sZ (h : u.Wf) {j : Nat} {v : AH} (hj : j < 5) : aO (cU u) (8364 + j) [v] = u.V.map (.int .u8) ++ (u.O.map (.int .u8) ++ (u.R.map (.int .u8) ++ (aO [.int .i64 u.line, .int .i64 u.dot, .int .i64 u.own, .int .i64 u.frames, .bool u.sig] j [v] ++ u.P.map (.int .u8)))) := by
 unfold cU
 rw [aZ (n := 172 + j) y_bw y_cO, aZ (n := 12 + j) y_cn y_cy, aZ (n := j) y_cC y_be, eA y_be]
def sT (h : u.Wf) (x : Int) : aO (cU u) 8364 [.int .i64 x] = cU { u with line := x } := sZ h (j := 0) y_b
def uM (h : u.Wf) (x : Int) : aO (cU u) 8365 [.int .i64 x] = cU { u with dot := x } := sZ h (j := 1) y_b
def rE (h : u.Wf) (x : Int) : aO (cU u) 8366 [.int .i64 x] = cU { u with own := x } := sZ h (j := 2) y_b
def aHg (h : u.Wf) (x : Int) : aO (cU u) 8367 [.int .i64 x] = cU { u with frames := x } := sZ h (j := 3) y_b
def aO2 (h : u.Wf) (x : Bool) : aO (cU u) 8368 [.bool x] = cU { u with sig := x } := sZ h (j := 4) y_b
def putU_P (h : u.Wf) {j : Nat} {r : AB} (hj : j + r.length ≤ 23040) : aO (cU u) (8369 + j) (r.map (.int .u8)) = cU { u with P := gK u.P j r } := by
 unfold cU
 rw [aZ (n := 177 + j) y_bw (by simp [h.lO, h.lR, h.lP]; omega), aZ (n := 17 + j) y_cn (by simp [h.lR, h.lP]; omega), aZ (n := 5 + j) y_b6 y_dp, aZ (n := j) y_r y_dp, rL]
end
def gS (u : PU) : Bool := decide (128 ≤ u.r 0)
def modeU (u : PU) : Int := if gS u = true then (if 144 ≤ u.line then 1 else if u.dot < 20 then 2 else if u.dot < 63 then 3 else 0) else 0
def uK (u : PU) : Bool := gS u && (u.line == u.r 5)
def xL (m : Int) : Int := if m = 0 then 8 else if m = 1 then 16 else if m = 2 then 32 else 0
def sigU (u : PU) : Bool := gS u && ((aH .u8 (u.r 1) (xL (modeU u)) != 0) || ((aH .u8 (u.r 1) 64 != 0) && uK u))
def askU (u : PU) : PU := { u with sig := sigU u }
def askV (u : PU) : Int := if sigU u = true ∧ u.sig = false then 2 else 0
def viewU (u : PU) : Vw := ⟨u.r 0, u.r 3, u.r 2, u.r 11, u.r 10⟩
def belowU (u : PU) : AB := wC u.V (viewU u) u.line u.own
def rowU (u : PU) : AB := (List.range 160).map (vX u.V u.O (u.r 0) (u.r 7) (u.r 8) (u.r 9) u.line (belowU u))
def jY (u : PU) : PU := { u with P := gK u.P (u.line.toNat * 160) (rowU u), own := if jZ (viewU u) u.line = true then u.own + 1 else u.own }
def kO (u : PU) : PU := if u.line = 143 then { u with dot := 0, line := 144, frames := (u.frames + 1) % 65536 } else if u.line = 153 then { u with dot := 0, line := 0, own := 0 } else { u with dot := 0, line := u.line + 1 }
def wD (u : PU) : Int := if u.line = 143 then 1 else 0
def oneU (u : PU) : PU := { u with dot := u.dot + 1 }
def stepU (u : PU) : PU := if u.dot = 62 ∧ u.line < 144 then jY (oneU u) else if u.dot = 113 then kO (oneU u) else oneU u
def stepV (u : PU) : Int := if u.dot = 113 ∧ u.line = 143 then 1 else 0
def tickU (u : PU) : PU := if gS u = true then askU (stepU u) else u
def tickV (u : PU) : Int := if gS u = true then stepV u + askV (stepU u) else 0
def fX : PU := ⟨List.replicate 8192 0, List.replicate 160 0, List.replicate 12 0, 0, 0, 0, 0, false, List.replicate 23040 0⟩
def xV (n : Nat) : aT (List.replicate n 0) := fun x hx => by rw [(List.mem_replicate.1 hx).2]; omega
def zE : fX.Wf := by
 refine ⟨bz, bz, bz, bz, xV _, xV _, xV _, xV _, ?_, ?_, ?_, ?_, ?_⟩ <;> decide +kernel
def aFy : fX.Ok := ⟨zE, y_eP, y_eP, y_eP⟩
section
variable {u : PU}
def PU.Wf.look (h : u.Wf) (j : Nat) : 0 ≤ u.r j ∧ u.r j < 256 := h.bR.get j
def viewU_ok (h : u.Wf) : (viewU u).Ok := ⟨h.look 0, h.look 3, h.look 2, h.look 11, h.look 10⟩
def aRr (h : u.Wf) : (aH .u8 (u.r 0) 128 != 0) = gS u := by
 have := aX (p := fun c => (aH .u8 c 128 != 0) = decide (128 ≤ c)) y_z (h.look 0).1 (h.look 0).2
 exact this
def zD (u : PU) : 0 ≤ modeU u ∧ modeU u < 4 := by
 unfold modeU; repeat' split
 all_goals omega
def rowU_len (u : PU) : (rowU u).length = 160 := by simp [rowU]
def aT7 (u : PU) : ([.int .u8 8, .int .u8 16, .int .u8 32, .int .u8 0] : AA)[0 + (modeU u).toNat]? = some (.int .u8 (xL (modeU u))) := by
 obtain ⟨h1, h2⟩ := zD u
 rcases (show modeU u = 0 ∨ modeU u = 1 ∨ modeU u = 2 ∨ modeU u = 3 by omega) with h | h | h | h <;> rw [h] <;> rfl
def aBp (h : u.Wf) {X : Bool} (hX : X = sigU u) : aO (cU u) 8368 [.bool X] = cU (askU u) := by subst hX; exact aO2 h _
def PU.Wf.sig_ (h : u.Wf) (x : Bool) : ({ u with sig := x } : PU).Wf := ⟨h.lV, h.lO, h.lR, h.lP, h.bV, h.bO, h.bR, h.bP, h.line, h.dot, h.own, h.frames, h.how⟩
def PU.Wf.ask (h : u.Wf) : (askU u).Wf := h.sig_ _
def PU.Wf.dot_ (h : u.Wf) {x : Int} (hx : 0 ≤ x ∧ x ≤ 114) : ({ u with dot := x } : PU).Wf := ⟨h.lV, h.lO, h.lR, h.lP, h.bV, h.bO, h.bR, h.bP, h.line, hx, h.own, h.frames, h.how⟩
def PU.Wf.line_ (h : u.Wf) {x : Int} (hx : 0 ≤ x ∧ x ≤ 154) : ({ u with line := x } : PU).Wf := ⟨h.lV, h.lO, h.lR, h.lP, h.bV, h.bO, h.bR, h.bP, hx, h.dot, h.own, h.frames, h.how⟩
def PU.Wf.own_ (h : u.Wf) {x : Int} (hx : 0 ≤ x ∧ x ≤ 600) : ({ u with own := x } : PU).Wf := ⟨h.lV, h.lO, h.lR, h.lP, h.bV, h.bO, h.bR, h.bP, h.line, h.dot, hx, h.frames, h.how⟩
def PU.Wf.frames_ (h : u.Wf) {x : Int} (hx : 0 ≤ x ∧ x < 65536) : ({ u with frames := x } : PU).Wf := ⟨h.lV, h.lO, h.lR, h.lP, h.bV, h.bO, h.bR, h.bP, h.line, h.dot, h.own, hx, h.how⟩
def lQ {l : AB} (h : aT l) (j : Nat) {x : Int} (hx : 0 ≤ x ∧ x < 256) : aT (l.set j x) := fun y hy => by
 rcases ee hy with hy | rfl
 ·exact h y hy
 ·exact hx
def aMV {l r : AB} (h : aT l) (hr : aT r) (o : Nat) : aT (gK l o r) := fun y hy => by
 unfold gK at hy
 rcases List.mem_append.1 hy with hy | hy
 ·rcases List.mem_append.1 hy with hy | hy
  ·exact h y (cu hy)
  ·exact hr y hy
 ·exact h y (da hy)
def PU.Wf.V_ (h : u.Wf) (j : Nat) {x : Int} (hx : 0 ≤ x ∧ x < 256) : ({ u with V := u.V.set j x } : PU).Wf := ⟨by simpa using h.lV, h.lO, h.lR, h.lP, lQ h.bV j hx, h.bO, h.bR, h.bP, h.line, h.dot, h.own, h.frames, h.how⟩
def PU.Wf.O_ (h : u.Wf) (j : Nat) {x : Int} (hx : 0 ≤ x ∧ x < 256) : ({ u with O := u.O.set j x } : PU).Wf := ⟨h.lV, by simpa using h.lO, h.lR, h.lP, h.bV, lQ h.bO j hx, h.bR, h.bP, h.line, h.dot, h.own, h.frames, h.how⟩
def PU.Wf.R_ (h : u.Wf) (j : Nat) {x : Int} (hx : 0 ≤ x ∧ x < 256) (hj : j = 1 → aH .u8 x 120 = x) : ({ u with R := u.R.set j x } : PU).Wf :=
 ⟨h.lV, h.lO, by simpa using h.lR, h.lP, h.bV, h.bO, lQ h.bR j hx, h.bP, h.line, h.dot, h.own, h.frames, by
  by_cases h1 : j = 1
  ·subst h1
   have : (u.R.set 1 x).getD 1 0 = x := by rw [Gd_, ic (by rw [h.lR]; decide)]; rfl
   show aH .u8 ((u.R.set 1 x).getD 1 0) 120 = (u.R.set 1 x).getD 1 0
   rw [this]; exact hj rfl
  ·have : (u.R.set j x).getD 1 0 = u.R.getD 1 0 := by rw [Gd_, fp h1, ← Gd_]
   show aH .u8 ((u.R.set j x).getD 1 0) 120 = (u.R.set j x).getD 1 0
   rw [this]; exact h.how⟩
def PU.Wf.P_ (h : u.Wf) (j : Nat) {r : AB} (hr : aT r) (hj : j + r.length ≤ 23040) : ({ u with P := gK u.P j r } : PU).Wf :=
 ⟨h.lV, h.lO, h.lR, by show (gK u.P j r).length = 23040; rw [aPh (by rw [h.lP]; exact hj), h.lP], h.bV, h.bO, h.bR, aMV h.bP hr j, h.line, h.dot, h.own, h.frames, h.how⟩
def placeV (b : Nat) (a : Int) : AH :=
 if 32768 ≤ a ∧ a < 40960 then .tuple #[.pointer (some ⟨b, 0 + (a - 32768).toNat, none⟩), .int .i64 3]
 else if 65024 ≤ a ∧ a < 65184 then .tuple #[.pointer (some ⟨b, 8192 + (a - 65024).toNat, none⟩), .int .i64 2] else .tuple #[.pointer none, .int .i64 0]
def numU (a : Int) : Int := if a < 65344 ∨ 65355 < a ∨ a = 65350 then -1 else a - 65344
def aAJ {a : Int} (_h : 0 ≤ a ∧ a < 65536) : (∃ j : Nat, j < 8192 ∧ a = 32768 + j) ∨ (∃ j : Nat, j < 160 ∧ a = 65024 + j) ∨ (¬ (32768 ≤ a ∧ a < 40960) ∧ ¬ (65024 ≤ a ∧ a < 65184)) := by
 by_cases h1 : 32768 ≤ a ∧ a < 40960
 ·exact .inl ⟨(a - 32768).toNat, y_y, y_y⟩
 ·by_cases h2 : 65024 ≤ a ∧ a < 65184
  ·exact .inr (.inl ⟨(a - 65024).toNat, y_y, y_y⟩)
  ·exact .inr (.inr ⟨h1, h2⟩)
def aDE {b j : Nat} (hj : j < 8192) : placeV b (32768 + j) = .tuple #[.pointer (some ⟨b, 0 + j, none⟩), .int .i64 3] := by
 unfold placeV
 rw [if_pos o_m, show ((32768 : Int) + j - 32768).toNat = j by omega]
def aDR {b j : Nat} (hj : j < 160) : placeV b (65024 + j) = .tuple #[.pointer (some ⟨b, 8192 + j, none⟩), .int .i64 2] := by
 unfold placeV
 rw [if_neg o_m, if_pos o_m, show ((65024 : Int) + j - 65024).toNat = j by omega]
def aBZ {b : Nat} {a : Int} (h : ¬ (32768 ≤ a ∧ a < 40960) ∧ ¬ (65024 ≤ a ∧ a < 65184)) : placeV b a = .tuple #[.pointer none, .int .i64 0] := by
 unfold placeV
 rw [if_neg h.1, if_neg h.2]
def vQ (a : Int) : numU a = -1 ∨ (0 ≤ numU a ∧ numU a < 12 ∧ numU a ≠ 6) := by unfold numU; split <;> omega
def rowU_vals (u : PU) : aIx u.V u.O (u.r 0) (u.r 7) (u.r 8) (u.r 9) u.line (belowU u) = (rowU u).map (.int .u8) := by simp [aIx, rowU]
def aBF (p c : Int) : 0 ≤ shd p c ∧ shd p c < 4 := by unfold shd; omega
def aCA (l : AB) (c bk f s2 x line below : Int) (o : Option Sp) : 0 ≤ qE l c bk f s2 x line below o ∧ qE l c bk f s2 x line below o < 4 := by
 unfold qE
 split
 ·exact aBF _ _
 ·split
  ·exact aBF _ _
  ·split <;> exact aBF _ _
def rowU_byts (u : PU) : aT (rowU u) := fun x hx => by
 obtain ⟨k, _, rfl⟩ := List.mem_map.1 hx
 have := aCA u.V (u.r 0) (u.r 7) (u.r 8) (u.r 9) k u.line ((belowU u).getD k 0) ((fK (jN u.O (u.r 0) u.line)).find? (hit u.V (u.r 0) k u.line))
 unfold vX; omega
def tN (h1 : u.dot = 62) (h2 : u.line < 144) : stepU u = jY (oneU u) := by unfold stepU; rw [if_pos ⟨h1, h2⟩]
def sS (h1 : u.dot = 113) : stepU u = kO (oneU u) := by unfold stepU; rw [if_neg o_m, if_pos h1]
def uE (h1 : ¬ (u.dot = 62 ∧ u.line < 144)) (h2 : ¬ u.dot = 113) : stepU u = oneU u := by unfold stepU; rw [if_neg h1, if_neg h2]
def PU.Wf.one (h : u.Wf) (hd : u.dot < 114) : (oneU u).Wf := h.dot_ (by have := h.dot; omega)
def PU.Wf.paint (h : u.Wf) (hl : u.line < 144) (ho : u.own < 600) : (jY u).Wf := by
 have h1 := h.P_ (u.line.toNat * 160) (rowU_byts u) (by rw [rowU_len]; have := h.line; omega)
 unfold jY
 by_cases hs : jZ (viewU u) u.line = true
 ·rw [if_pos hs]; exact h1.own_ (by have := h.own; omega)
 ·rw [if_neg hs]; exact h1
def aK0 (h : u.line = 143) : kO u = { u with dot := 0, line := 144, frames := (u.frames + 1) % 65536 } := by unfold kO; rw [if_pos h]
def aMd (h : u.line = 153) : kO u = { u with dot := 0, line := 0, own := 0 } := by unfold kO; rw [if_neg o_m, if_pos h]
def aLL (h1 : ¬ u.line = 143) (h2 : ¬ u.line = 153) : kO u = { u with dot := 0, line := u.line + 1 } := by unfold kO; rw [if_neg h1, if_neg h2]
def PU.Wf.next (h : u.Wf) (hl : u.line < 154) : (kO u).Wf := by
 have hb := h.line
 by_cases h1 : u.line = 143
 ·rw [aK0 h1]; exact ((h.dot_ (x := 0) y_b).line_ (x := 144) y_b).frames_ o_m
 ·by_cases h2 : u.line = 153
  ·rw [aMd h2]; exact ((h.dot_ (x := 0) y_b).line_ (x := 0) y_b).own_ y_b
  ·rw [aLL h1 h2]; exact (h.dot_ (x := 0) y_b).line_ o_m
def PU.Ok.own599 (h : u.Ok) : u.own < 600 := by
 have := h.own; have := h.line; split at * <;> omega
def PU.Ok.step (h : u.Ok) : (stepU u).Wf := by
 have hd := h.dot
 by_cases h1 : u.dot = 62 ∧ u.line < 144
 ·rw [tN h1.1 h1.2]; exact (h.wf.one hd).paint h1.2 h.own599
 ·by_cases h2 : u.dot = 113
  ·rw [sS h2]; exact (h.wf.one hd).next h.line
  ·rw [uE h1 h2]; exact h.wf.one hd
def PU.Ok.tick (h : u.Ok) : (tickU u).Ok := by
 unfold tickU
 by_cases hl : gS u = true
 ·rw [if_pos hl]
  have hs := h.step
  have hd := h.dot
  have hn := h.line
  have ho := h.own
  have hz := h.wf.dot
  have hy := h.wf.line
  refine ⟨hs.ask, ?_, ?_, ?_⟩
  all_goals
   show _
   unfold askU
   by_cases h1 : u.dot = 62 ∧ u.line < 144
   ·rw [tN h1.1 h1.2]
    simp only [jY, oneU]
    split at ho <;> (try split) <;> (try split) <;> omega
   ·by_cases h2 : u.dot = 113
    ·rw [sS h2]
     unfold kO oneU
     dsimp only
     by_cases h3 : u.line = 143
     ·rw [if_pos h3]; dsimp only; split at ho <;> (try split) <;> omega
     ·rw [if_neg h3]
      by_cases h4 : u.line = 153
      ·rw [if_pos h4]; dsimp only; (try split) <;> omega
      ·rw [if_neg h4]; dsimp only; split at ho <;> (try split) <;> omega
    ·rw [uE h1 h2]
     unfold oneU
     dsimp only
     split at ho <;> (try split) <;> omega
 ·rw [if_neg hl]; exact h
def bor_ask {x y : Int} (hx : x = 0 ∨ x = 1) (hy : y = 0 ∨ y = 2) : bor .u8 x y = x + y := by
 rcases hx with rfl | rfl <;> rcases hy with rfl | rfl <;> decide
def askV_two (u : PU) : askV u = 0 ∨ askV u = 2 := by unfold askV; split <;> simp
def stepV_one (u : PU) : stepV u = 0 ∨ stepV u = 1 := by unfold stepV; split <;> simp
def aUe (h1 : gS u = false) : false = sigU u := by unfold sigU; rw [h1]; rfl
def aUc (h1 : gS u = true) (h2 : (aH .u8 (u.r 1) (xL (modeU u)) != 0) = true) : true = sigU u := by unfold sigU; rw [h1, h2]; rfl
def aUw (h1 : gS u = true) (h2 : (aH .u8 (u.r 1) (xL (modeU u)) != 0) = false) (h3 : (aH .u8 (u.r 1) 64 != 0) = false) : false = sigU u := by unfold sigU; rw [h1, h2, h3]; rfl
def aUK (h1 : gS u = true) (h2 : (aH .u8 (u.r 1) (xL (modeU u)) != 0) = false) (h3 : (aH .u8 (u.r 1) 64 != 0) = true) : uK u = sigU u := by unfold sigU; rw [h1, h2, h3]; rfl
def aD0 (h : jZ (viewU u) u.line = true) : jY u = { u with P := gK u.P (u.line.toNat * 160) (rowU u), own := u.own + 1 } := by unfold jY; rw [if_pos h]
def aGG (h : jZ (viewU u) u.line = false) : jY u = { u with P := gK u.P (u.line.toNat * 160) (rowU u) } := by unfold jY; rw [if_neg (by rw [h]; decide)]
end
def nS {w : AI} {b j : Nat} {l : AA} {v : AH} (h : Row w b 0 l) (hv : l[j]? = some v) : w.cell? ⟨b, j, none⟩ = some v := by
 simpa using h j v hv
def yF (u : PU) : Int := bor .u8 (bor .u8 128 (u.r 1)) (modeU u)
def lC (u : PU) (a : Int) : Int :=
 if 32768 ≤ a ∧ a < 40960 then u.V.getD (a - 32768).toNat 0 else if 65024 ≤ a ∧ a < 65184 then u.O.getD (a - 65024).toNat 0
 else if numU a = -1 then 255 else if numU a = 4 then u.line % 256 else if numU a = 1 then (if uK u = true then bor .u8 (yF u) 4 else yF u) else u.r (numU a).toNat
def qV (u : PU) (a : Int) : Int :=
 if (32768 ≤ a ∧ a < 40960 ∧ 3 ≤ modeU u) ∨ (65024 ≤ a ∧ a < 65184 ∧ 2 ≤ modeU u) then 255 else lC u a
def iH (u : PU) (n : Int) (x : Int) : PU := if n = 1 then { u with R := u.R.set 1 (aH .u8 x 120) } else if n = 4 then u else { u with R := u.R.set n.toNat x }
def yQ (was : Bool) (u : PU) : PU := if was = true ∧ gS u = false then { u with line := 0, dot := 0, own := 0 } else u
def putU (u : PU) (n : Int) (x : Int) : PU := yQ (gS u) (iH u n x)
def fO (u : PU) (a x : Int) : PU :=
 if 32768 ≤ a ∧ a < 40960 then (if modeU u < 3 then { u with V := u.V.set (a - 32768).toNat x } else u)
 else if 65024 ≤ a ∧ a < 65184 then (if modeU u < 2 then { u with O := u.O.set (a - 65024).toNat x } else u)
 else if numU a = -1 then u else askU (putU u (numU a) x)
def jQ (u : PU) (a x : Int) : Int :=
 if 32768 ≤ a ∧ a < 40960 then 0 else if 65024 ≤ a ∧ a < 65184 then 0 else if numU a = -1 then 0 else askV (putU u (numU a) x)
def kT (u : PU) (n x : Int) : PU := if 0 ≤ n ∧ n < 160 then { u with O := u.O.set n.toNat x } else u
section
variable {u : PU} {x : Int}
def aDl (hx : 0 ≤ x ∧ x < 256) : 0 ≤ aH .u8 x 120 ∧ aH .u8 x 120 < 256 ∧ aH .u8 (aH .u8 x 120) 120 = aH .u8 x 120 :=
 aX (p := fun x => 0 ≤ aH .u8 x 120 ∧ aH .u8 x 120 < 256 ∧ aH .u8 (aH .u8 x 120) 120 = aH .u8 x 120) y_z hx.1 hx.2
def PU.Wf.set1 (h : u.Wf) (hx : 0 ≤ x ∧ x < 256) : ({ u with R := u.R.set 1 (aH .u8 x 120) } : PU).Wf := h.R_ 1 ⟨(aDl hx).1, (aDl hx).2.1⟩ fun _ => (aDl hx).2.2
def PU.Wf.setn (h : u.Wf) (hx : 0 ≤ x ∧ x < 256) {n : Int} (_hn : 0 ≤ n) (h1 : ¬ n = 1) : ({ u with R := u.R.set n.toNat x } : PU).Wf := h.R_ n.toNat hx fun h2 => absurd h2 o_m
def PU.Wf.zero (h : u.Wf) : ({ u with line := 0, dot := 0, own := 0 } : PU).Wf := ((h.line_ (x := 0) y_b).dot_ (x := 0) y_b).own_ (x := 0) y_b
def set_1 {n : Int} (h : n = 1) : iH u n x = { u with R := u.R.set 1 (aH .u8 x 120) } := by unfold iH; rw [if_pos h]
def aCH {n : Int} (h : n = 4) : iH u n x = u := by unfold iH; rw [if_neg o_m, if_pos h]
def set_n {n : Int} (h1 : ¬ n = 1) (h4 : ¬ n = 4) : iH u n x = { u with R := u.R.set n.toNat x } := by unfold iH; rw [if_neg h1, if_neg h4]
def PU.Wf.set (h : u.Wf) (hx : 0 ≤ x ∧ x < 256) {n : Int} (hn : 0 ≤ n) : (iH u n x).Wf := by
 by_cases h1 : n = 1
 ·rw [set_1 h1]; exact h.set1 hx
 ·by_cases h4 : n = 4
  ·rw [aCH h4]; exact h
  ·rw [set_n h1 h4]; exact h.setn hx hn h1
def aBc {was : Bool} (h1 : was = true) (h2 : gS u = false) : yQ was u = { u with line := 0, dot := 0, own := 0 } := by unfold yQ; rw [if_pos ⟨h1, h2⟩]
def off_no {was : Bool} (h : was = false ∨ gS u = true) : yQ was u = u := by
 unfold yQ; rw [if_neg]; rintro ⟨h1, h2⟩; rcases h with h | h <;> simp_all
def PU.Wf.off (h : u.Wf) (was : Bool) : (yQ was u).Wf := by
 unfold yQ; split
 ·exact h.zero
 ·exact h
def aHQ (b : Int) {j : Nat} (hj : j < 8192) : fO u (32768 + j) b = if modeU u < 3 then { u with V := u.V.set j b } else u := by
 unfold fO
 rw [if_pos o_m, show ((32768 : Int) + j - 32768).toNat = j by omega]
def aHv (b : Int) {j : Nat} (hj : j < 160) : fO u (65024 + j) b = if modeU u < 2 then { u with O := u.O.set j b } else u := by
 unfold fO
 rw [if_neg o_m, if_pos o_m, show ((65024 : Int) + j - 65024).toNat = j by omega]
def aNV {a : Int} (b : Int) (h : ¬ (32768 ≤ a ∧ a < 40960) ∧ ¬ (65024 ≤ a ∧ a < 65184)) (hn : numU a = -1) : fO u a b = u := by
 unfold fO; rw [if_neg h.1, if_neg h.2, if_pos hn]
def write_R {a : Int} (b : Int) (h : ¬ (32768 ≤ a ∧ a < 40960) ∧ ¬ (65024 ≤ a ∧ a < 65184)) (hn : ¬ numU a = -1) : fO u a b = askU (putU u (numU a) b) := by
 unfold fO; rw [if_neg h.1, if_neg h.2, if_neg hn]
def aR4 (b : Int) {j : Nat} (hj : j < 8192) : jQ u (32768 + j) b = 0 := by unfold jQ; rw [if_pos o_m]
def aS7 (b : Int) {j : Nat} (hj : j < 160) : jQ u (65024 + j) b = 0 := by unfold jQ; rw [if_neg o_m, if_pos o_m]
def aUt {a : Int} (b : Int) (h : ¬ (32768 ≤ a ∧ a < 40960) ∧ ¬ (65024 ≤ a ∧ a < 65184)) (hn : numU a = -1) : jQ u a b = 0 := by
 unfold jQ; rw [if_neg h.1, if_neg h.2, if_pos hn]
def wv_R {a : Int} (b : Int) (h : ¬ (32768 ≤ a ∧ a < 40960) ∧ ¬ (65024 ≤ a ∧ a < 65184)) (hn : ¬ numU a = -1) : jQ u a b = askV (putU u (numU a) b) := by
 unfold jQ; rw [if_neg h.1, if_neg h.2, if_neg hn]
def aSm {j : Nat} (hj : j < 8192) : lC u (32768 + j) = u.V.getD j 0 := by
 unfold lC; rw [if_pos o_m, show ((32768 : Int) + j - 32768).toNat = j by omega]
def aSY {j : Nat} (hj : j < 160) : lC u (65024 + j) = u.O.getD j 0 := by
 unfold lC; rw [if_neg o_m, if_pos o_m, show ((65024 : Int) + j - 65024).toNat = j by omega]
def aAi {a : Int} (h : ¬ (32768 ≤ a ∧ a < 40960) ∧ ¬ (65024 ≤ a ∧ a < 65184)) :
  lC u a = if numU a = -1 then 255 else if numU a = 4 then u.line % 256 else if numU a = 1 then (if uK u = true then bor .u8 (yF u) 4 else yF u) else u.r (numU a).toNat := by
 unfold lC; rw [if_neg h.1, if_neg h.2]
def aJW {j : Nat} (hj : j < 8192) : qV u (32768 + j) = if 3 ≤ modeU u then 255 else lC u (32768 + j) := by
 unfold qV; by_cases h : 3 ≤ modeU u
 ·rw [if_pos o_m, if_pos h]
 ·rw [if_neg o_m, if_neg h]
def aLo {j : Nat} (hj : j < 160) : qV u (65024 + j) = if 2 ≤ modeU u then 255 else lC u (65024 + j) := by
 unfold qV; by_cases h : 2 ≤ modeU u
 ·rw [if_pos o_m, if_pos h]
 ·rw [if_neg o_m, if_neg h]
def aQv {a : Int} (h : ¬ (32768 ≤ a ∧ a < 40960) ∧ ¬ (65024 ≤ a ∧ a < 65184)) : qV u a = lC u a := by
 unfold qV; rw [if_neg o_m]
def PU.Ok.ask (h : u.Ok) : (askU u).Ok := ⟨h.wf.ask, h.line, h.dot, h.own⟩
def PU.Ok.write (h : u.Ok) {a : Int} (hx : 0 ≤ x ∧ x < 256) : (fO u a x).Ok := by
 have hl := h.line; have hd := h.dot; have ho := h.own
 unfold fO
 split
 ·split
  ·exact ⟨h.wf.V_ _ hx, hl, hd, ho⟩
  ·exact h
 ·split
  ·split
   ·exact ⟨h.wf.O_ _ hx, hl, hd, ho⟩
   ·exact h
  ·split
   ·exact h
   ·rename_i hn
    have hr := vQ a
    refine PU.Ok.ask ?_
    have hs : (iH u (numU a) x).Ok := by
     refine ⟨h.wf.set hx o_m, ?_, ?_, ?_⟩ <;> (unfold iH; split; · assumption) <;> split <;> assumption
    unfold putU yQ
    split
    ·exact ⟨hs.wf.zero, by show (0 : Int) < 154; decide, by show (0 : Int) < 114; decide, by show (0 : Int) ≤ 255 + 0 + (if (63 : Int) ≤ 0 then 1 else 0); decide⟩
    ·exact hs
def PU.Ok.sprite (h : u.Ok) (n : Int) (hx : 0 ≤ x ∧ x < 256) : (kT u n x).Ok := by
 have hl := h.line; have hd := h.dot; have ho := h.own
 unfold kT
 split
 ·exact ⟨h.wf.O_ _ hx, hl, hd, ho⟩
 ·exact h
end
structure Opr where
 kind : Int
 x : Int
 y : Int
 size : Int
 n : Int
 deriving DecidableEq
def cO (o : Opr) : AA := [.int .i64 o.kind, .int .i64 o.x, .int .i64 o.y, .int .i64 o.size, .int .u16 o.n]
def cO_len (o : Opr) : (cO o).length = 5 := rfl
def aIu {l : AA} {o : Opr} (h : l = cO o) : Value.agg l.toArray = .agg (cO o).toArray := by rw [h]
def o0 : Opr := ⟨0, 0, 0, 0, 0⟩
def cW (s : List UInt8) : AA := [.string (bs s)]
def aUU : List UInt8 := [48, 49, 50, 51, 52, 53, 54, 55, 56, 57, 97, 98, 99, 100, 101, 102]
def dig (m : Nat) : UInt8 := aUU.getD m 0
def aSw (n : Nat) (many : Nat) : List UInt8 := (List.range many).reverse.map fun i => dig (n / 16 ^ i % 16)
def h2 (o : Opr) : List UInt8 := aSw o.n.toNat 2
def h4 (o : Opr) : List UInt8 := aSw o.n.toNat 4
structure Pq where
 at_ : Nat
 by_ : Nat
 many : Nat
 kind : Int
 size : Int
 x : Option (List Int)
def PL : List Pq := [⟨0, 1, 1, 1, 1, none⟩, ⟨8, 1, 1, 40, 3, none⟩, ⟨16, 1, 1, 2, 2, none⟩, ⟨24, 1, 1, 23, 2, some [4]⟩, ⟨32, 8, 4, 23, 2, some [0, 1, 2, 3]⟩, ⟨1, 16, 4, 9, 3, some [0, 1, 2, 3]⟩, ⟨9, 16, 4, 16, 1, some [0, 1, 2, 3]⟩, ⟨2, 16, 4, 33, 1, some [0, 1, 2, 3]⟩, ⟨10, 16, 4, 32, 1, some [0, 1, 2, 3]⟩, ⟨3, 16, 4, 14, 1, some [0, 1, 2, 3]⟩, ⟨11, 16, 4, 15, 1, some [0, 1, 2, 3]⟩, ⟨4, 8, 8, 12, 1, some [0, 1, 2, 3, 4, 5, 6, 7]⟩, ⟨5, 8, 8, 13, 1, some [0, 1, 2, 3, 4, 5, 6, 7]⟩, ⟨6, 8, 8, 8, 2, some [0, 1, 2, 3, 4, 5, 6, 7]⟩, ⟨7, 8, 4, 18, 1, some [0, 1, 2, 3]⟩, ⟨39, 1, 1, 19, 1, none⟩, ⟨47, 1, 1, 20, 1, none⟩, ⟨55, 1, 1, 21, 1, none⟩, ⟨63, 1, 1, 22, 1, none⟩, ⟨192, 8, 4, 26, 1, some [0, 1, 2, 3]⟩, ⟨224, 1, 1, 35, 2, none⟩, ⟨232, 1, 1, 41, 2, none⟩, ⟨240, 1, 1, 34, 2, none⟩, ⟨248, 1, 1, 42, 2, none⟩, ⟨193, 16, 4, 31, 1, some [0, 1, 2, 4]⟩, ⟨197, 16, 4, 30, 1, some [0, 1, 2, 4]⟩, ⟨201, 1, 1, 26, 1, some [4]⟩, ⟨217, 1, 1, 27, 1, none⟩, ⟨233, 1, 1, 29, 1, none⟩, ⟨249, 1, 1, 43, 1, none⟩, ⟨194, 8, 4, 24, 3, some [0, 1, 2, 3]⟩, ⟨226, 1, 1, 37, 1, none⟩, ⟨234, 1, 1, 39, 3, none⟩, ⟨242, 1, 1, 36, 1, none⟩, ⟨250, 1, 1, 38, 3, none⟩, ⟨195, 1, 1, 24, 3, some [4]⟩, ⟨243, 1, 1, 5, 1, none⟩, ⟨251, 1, 1, 6, 1, none⟩, ⟨196, 8, 4, 25, 3, some [0, 1, 2, 3]⟩, ⟨205, 1, 1, 25, 3, some [4]⟩, ⟨198, 8, 8, 11, 2, some [0, 1, 2, 3, 4, 5, 6, 7]⟩]
def rJ : List Opr := [⟨1, 0, 0, 1, 0⟩, ⟨9, 0, 0, 3, 0⟩, ⟨33, 0, 0, 1, 0⟩, ⟨14, 0, 0, 1, 0⟩, ⟨12, 0, 0, 1, 0⟩, ⟨13, 0, 0, 1, 0⟩, ⟨8, 0, 0, 2, 0⟩, ⟨18, 0, 0, 1, 0⟩, ⟨40, 0, 0, 3, 0⟩, ⟨16, 0, 0, 1, 0⟩, ⟨32, 0, 0, 1, 0⟩, ⟨15, 0, 0, 1, 0⟩, ⟨12, 1, 0, 1, 0⟩, ⟨13, 1, 0, 1, 0⟩, ⟨8, 1, 0, 2, 0⟩, ⟨18, 1, 0, 1, 0⟩, ⟨2, 0, 0, 2, 0⟩, ⟨9, 1, 0, 3, 0⟩, ⟨33, 1, 0, 1, 0⟩, ⟨14, 1, 0, 1, 0⟩, ⟨12, 2, 0, 1, 0⟩, ⟨13, 2, 0, 1, 0⟩, ⟨8, 2, 0, 2, 0⟩, ⟨18, 2, 0, 1, 0⟩, ⟨23, 4, 0, 2, 0⟩, ⟨16, 1, 0, 1, 0⟩, ⟨32, 1, 0, 1, 0⟩, ⟨15, 1, 0, 1, 0⟩, ⟨12, 3, 0, 1, 0⟩, ⟨13, 3, 0, 1, 0⟩, ⟨8, 3, 0, 2, 0⟩, ⟨18, 3, 0, 1, 0⟩, ⟨23, 0, 0, 2, 0⟩, ⟨9, 2, 0, 3, 0⟩, ⟨33, 2, 0, 1, 0⟩, ⟨14, 2, 0, 1, 0⟩, ⟨12, 4, 0, 1, 0⟩, ⟨13, 4, 0, 1, 0⟩, ⟨8, 4, 0, 2, 0⟩, ⟨19, 0, 0, 1, 0⟩, ⟨23, 1, 0, 2, 0⟩, ⟨16, 2, 0, 1, 0⟩, ⟨32, 2, 0, 1, 0⟩, ⟨15, 2, 0, 1, 0⟩, ⟨12, 5, 0, 1, 0⟩, ⟨13, 5, 0, 1, 0⟩, ⟨8, 5, 0, 2, 0⟩, ⟨20, 0, 0, 1, 0⟩, ⟨23, 2, 0, 2, 0⟩, ⟨9, 3, 0, 3, 0⟩, ⟨33, 3, 0, 1, 0⟩, ⟨14, 3, 0, 1, 0⟩, ⟨12, 6, 0, 1, 0⟩, ⟨13, 6, 0, 1, 0⟩, ⟨8, 6, 0, 2, 0⟩, ⟨21, 0, 0, 1, 0⟩, ⟨23, 3, 0, 2, 0⟩, ⟨16, 3, 0, 1, 0⟩, ⟨32, 3, 0, 1, 0⟩, ⟨15, 3, 0, 1, 0⟩, ⟨12, 7, 0, 1, 0⟩, ⟨13, 7, 0, 1, 0⟩, ⟨8, 7, 0, 2, 0⟩, ⟨22, 0, 0, 1, 0⟩, ⟨7, 0, 0, 1, 0⟩, ⟨7, 0, 1, 1, 0⟩, ⟨7, 0, 2, 1, 0⟩, ⟨7, 0, 3, 1, 0⟩, ⟨7, 0, 4, 1, 0⟩, ⟨7, 0, 5, 1, 0⟩, ⟨7, 0, 6, 1, 0⟩, ⟨7, 0, 7, 1, 0⟩, ⟨7, 1, 0, 1, 0⟩, ⟨7, 1, 1, 1, 0⟩, ⟨7, 1, 2, 1, 0⟩, ⟨7, 1, 3, 1, 0⟩, ⟨7, 1, 4, 1, 0⟩, ⟨7, 1, 5, 1, 0⟩, ⟨7, 1, 6, 1, 0⟩, ⟨7, 1, 7, 1, 0⟩, ⟨7, 2, 0, 1, 0⟩, ⟨7, 2, 1, 1, 0⟩, ⟨7, 2, 2, 1, 0⟩, ⟨7, 2, 3, 1, 0⟩, ⟨7, 2, 4, 1, 0⟩, ⟨7, 2, 5, 1, 0⟩, ⟨7, 2, 6, 1, 0⟩, ⟨7, 2, 7, 1, 0⟩, ⟨7, 3, 0, 1, 0⟩, ⟨7, 3, 1, 1, 0⟩, ⟨7, 3, 2, 1, 0⟩, ⟨7, 3, 3, 1, 0⟩, ⟨7, 3, 4, 1, 0⟩, ⟨7, 3, 5, 1, 0⟩, ⟨7, 3, 6, 1, 0⟩, ⟨7, 3, 7, 1, 0⟩, ⟨7, 4, 0, 1, 0⟩, ⟨7, 4, 1, 1, 0⟩, ⟨7, 4, 2, 1, 0⟩, ⟨7, 4, 3, 1, 0⟩, ⟨7, 4, 4, 1, 0⟩, ⟨7, 4, 5, 1, 0⟩, ⟨7, 4, 6, 1, 0⟩, ⟨7, 4, 7, 1, 0⟩, ⟨7, 5, 0, 1, 0⟩, ⟨7, 5, 1, 1, 0⟩, ⟨7, 5, 2, 1, 0⟩, ⟨7, 5, 3, 1, 0⟩, ⟨7, 5, 4, 1, 0⟩, ⟨7, 5, 5, 1, 0⟩, ⟨7, 5, 6, 1, 0⟩, ⟨7, 5, 7, 1, 0⟩, ⟨7, 6, 0, 1, 0⟩, ⟨7, 6, 1, 1, 0⟩, ⟨7, 6, 2, 1, 0⟩, ⟨7, 6, 3, 1, 0⟩, ⟨7, 6, 4, 1, 0⟩, ⟨7, 6, 5, 1, 0⟩, ⟨3, 0, 0, 1, 0⟩, ⟨7, 6, 7, 1, 0⟩, ⟨7, 7, 0, 1, 0⟩, ⟨7, 7, 1, 1, 0⟩, ⟨7, 7, 2, 1, 0⟩, ⟨7, 7, 3, 1, 0⟩, ⟨7, 7, 4, 1, 0⟩, ⟨7, 7, 5, 1, 0⟩, ⟨7, 7, 6, 1, 0⟩, ⟨7, 7, 7, 1, 0⟩, ⟨10, 0, 0, 1, 0⟩, ⟨10, 0, 1, 1, 0⟩, ⟨10, 0, 2, 1, 0⟩, ⟨10, 0, 3, 1, 0⟩, ⟨10, 0, 4, 1, 0⟩, ⟨10, 0, 5, 1, 0⟩, ⟨10, 0, 6, 1, 0⟩, ⟨10, 0, 7, 1, 0⟩, ⟨10, 1, 0, 1, 0⟩, ⟨10, 1, 1, 1, 0⟩, ⟨10, 1, 2, 1, 0⟩, ⟨10, 1, 3, 1, 0⟩, ⟨10, 1, 4, 1, 0⟩, ⟨10, 1, 5, 1, 0⟩, ⟨10, 1, 6, 1, 0⟩, ⟨10, 1, 7, 1, 0⟩, ⟨10, 2, 0, 1, 0⟩, ⟨10, 2, 1, 1, 0⟩, ⟨10, 2, 2, 1, 0⟩, ⟨10, 2, 3, 1, 0⟩, ⟨10, 2, 4, 1, 0⟩, ⟨10, 2, 5, 1, 0⟩, ⟨10, 2, 6, 1, 0⟩, ⟨10, 2, 7, 1, 0⟩, ⟨10, 3, 0, 1, 0⟩, ⟨10, 3, 1, 1, 0⟩, ⟨10, 3, 2, 1, 0⟩, ⟨10, 3, 3, 1, 0⟩, ⟨10, 3, 4, 1, 0⟩, ⟨10, 3, 5, 1, 0⟩, ⟨10, 3, 6, 1, 0⟩, ⟨10, 3, 7, 1, 0⟩, ⟨10, 4, 0, 1, 0⟩, ⟨10, 4, 1, 1, 0⟩, ⟨10, 4, 2, 1, 0⟩, ⟨10, 4, 3, 1, 0⟩, ⟨10, 4, 4, 1, 0⟩, ⟨10, 4, 5, 1, 0⟩, ⟨10, 4, 6, 1, 0⟩, ⟨10, 4, 7, 1, 0⟩, ⟨10, 5, 0, 1, 0⟩, ⟨10, 5, 1, 1, 0⟩, ⟨10, 5, 2, 1, 0⟩, ⟨10, 5, 3, 1, 0⟩, ⟨10, 5, 4, 1, 0⟩, ⟨10, 5, 5, 1, 0⟩, ⟨10, 5, 6, 1, 0⟩, ⟨10, 5, 7, 1, 0⟩, ⟨10, 6, 0, 1, 0⟩, ⟨10, 6, 1, 1, 0⟩, ⟨10, 6, 2, 1, 0⟩, ⟨10, 6, 3, 1, 0⟩, ⟨10, 6, 4, 1, 0⟩, ⟨10, 6, 5, 1, 0⟩, ⟨10, 6, 6, 1, 0⟩, ⟨10, 6, 7, 1, 0⟩, ⟨10, 7, 0, 1, 0⟩, ⟨10, 7, 1, 1, 0⟩, ⟨10, 7, 2, 1, 0⟩, ⟨10, 7, 3, 1, 0⟩, ⟨10, 7, 4, 1, 0⟩, ⟨10, 7, 5, 1, 0⟩, ⟨10, 7, 6, 1, 0⟩, ⟨10, 7, 7, 1, 0⟩, ⟨26, 0, 0, 1, 0⟩, ⟨31, 0, 0, 1, 0⟩, ⟨24, 0, 0, 3, 0⟩, ⟨24, 4, 0, 3, 0⟩, ⟨25, 0, 0, 3, 0⟩, ⟨30, 0, 0, 1, 0⟩, ⟨11, 0, 0, 2, 0⟩, ⟨28, 0, 0, 1, 0⟩, ⟨26, 1, 0, 1, 0⟩, ⟨26, 4, 0, 1, 0⟩, ⟨24, 1, 0, 3, 0⟩, ⟨4, 0, 0, 1, 0⟩, ⟨25, 1, 0, 3, 0⟩, ⟨25, 4, 0, 3, 0⟩, ⟨11, 1, 0, 2, 0⟩, ⟨28, 0, 0, 1, 8⟩, ⟨26, 2, 0, 1, 0⟩, ⟨31, 1, 0, 1, 0⟩, ⟨24, 2, 0, 3, 0⟩, ⟨4, 0, 0, 1, 0⟩, ⟨25, 2, 0, 3, 0⟩, ⟨30, 1, 0, 1, 0⟩, ⟨11, 2, 0, 2, 0⟩, ⟨28, 0, 0, 1, 16⟩, ⟨26, 3, 0, 1, 0⟩, ⟨27, 0, 0, 1, 0⟩, ⟨24, 3, 0, 3, 0⟩, ⟨4, 0, 0, 1, 0⟩, ⟨25, 3, 0, 3, 0⟩, ⟨4, 0, 0, 1, 0⟩, ⟨11, 3, 0, 2, 0⟩, ⟨28, 0, 0, 1, 24⟩, ⟨35, 0, 0, 2, 0⟩, ⟨31, 2, 0, 1, 0⟩, ⟨37, 0, 0, 1, 0⟩, ⟨4, 0, 0, 1, 0⟩, ⟨4, 0, 0, 1, 0⟩, ⟨30, 2, 0, 1, 0⟩, ⟨11, 4, 0, 2, 0⟩, ⟨28, 0, 0, 1, 32⟩, ⟨41, 0, 0, 2, 0⟩, ⟨29, 0, 0, 1, 0⟩, ⟨39, 0, 0, 3, 0⟩, ⟨4, 0, 0, 1, 0⟩, ⟨4, 0, 0, 1, 0⟩, ⟨4, 0, 0, 1, 0⟩, ⟨11, 5, 0, 2, 0⟩, ⟨28, 0, 0, 1, 40⟩, ⟨34, 0, 0, 2, 0⟩, ⟨31, 4, 0, 1, 0⟩, ⟨36, 0, 0, 1, 0⟩, ⟨5, 0, 0, 1, 0⟩, ⟨4, 0, 0, 1, 0⟩, ⟨30, 4, 0, 1, 0⟩, ⟨11, 6, 0, 2, 0⟩, ⟨28, 0, 0, 1, 48⟩, ⟨42, 0, 0, 2, 0⟩, ⟨43, 0, 0, 1, 0⟩, ⟨38, 0, 0, 3, 0⟩, ⟨6, 0, 0, 1, 0⟩, ⟨4, 0, 0, 1, 0⟩, ⟨4, 0, 0, 1, 0⟩, ⟨11, 7, 0, 2, 0⟩, ⟨28, 0, 0, 1, 56⟩]
def p1 (i : Nat) : Opr := if i / 64 = 1 then ⟨7, (i / 8 % 8 : Nat), (i % 8 : Nat), 1, 0⟩ else if i / 64 = 2 then ⟨10, (i / 8 % 8 : Nat), (i % 8 : Nat), 1, 0⟩ else ⟨4, 0, 0, 1, 0⟩
def b1 (i : Nat) : Opr := ⟨[17, 44, 45, 46].getD (i / 64) 0, (i / 8 % 8 : Nat), (i % 8 : Nat), 2, 0⟩
def qOp (q : Pq) (i : Nat) : Opr := ⟨q.kind, match q.x with
 | some x => x.getD i 0
 | none => 0, 0, q.size, 0⟩
def wJ (q : Pq) (P : List Opr) (n : Nat) : List Opr := (List.range n).foldl (fun P i => P.set (q.at_ + q.by_ * i) (qOp q i)) P
def putQ (P : List Opr) (q : Pq) : List Opr := wJ q P q.many
def aAl (P : List Opr) (n : Nat) : List Opr := (List.range n).foldl (fun P y => P.set (199 + 8 * y) ⟨28, 0, 0, 1, (8 * y : Nat)⟩) P
def okQ (q : Pq) : Bool := (List.range q.many).all (fun i => Nat.blt (q.at_ + q.by_ * i) 256) && Nat.ble q.many 8 && Nat.ble q.by_ 16 && (match q.x with
 | some x => Nat.beq x.length q.many
 | none => true)
def aT3 : PL.all okQ = true := by decide
def aTM : PL.length = 41 := rfl
def lX : List Opr := ((List.range 256).map p1).set 118 ⟨3, 0, 0, 1, 0⟩
def tabB : List Opr := (List.range 256).map b1
def aSJ : aAl (PL.foldl putQ lX) 8 = rJ := by kernel_rfl
def aEn (q : Pq) (P : List Opr) : wJ q P 0 = P := rfl
def aKo (P : List Opr) : aAl P 0 = P := rfl
def aAm (q : Pq) (P : List Opr) (n : Nat) : wJ q P (n + 1) = (wJ q P n).set (q.at_ + q.by_ * n) (qOp q n) := by simp [wJ, d7]
def aEw (P : List Opr) (n : Nat) : aAl P (n + 1) = (aAl P n).set (199 + 8 * n) ⟨28, 0, 0, 1, (8 * n : Nat)⟩ := by simp [aAl, d7]
def aB0 (q : Pq) (P : List Opr) (n : Nat) : (wJ q P n).length = P.length := by
 induction n with
 | zero => rfl
 | succ n ih => rw [aAm, ca, ih]
def aNo (P : List Opr) (n : Nat) : (aAl P n).length = P.length := by
 induction n with
 | zero => rfl
 | succ n ih => rw [aEw, ca, ih]
def aDX (l : List Pq) (P : List Opr) : (l.foldl putQ P).length = P.length := by
 induction l generalizing P with
 | nil => rfl
 | cons q l ih => rw [iq, ih, putQ, aB0]
def aCI : lX.length = 256 := by simp [lX]
def foldQ_take {k : Nat} {q : Pq} (h : PL[k]? = some q) (P : List Opr) : (PL.take (k + 1)).foldl putQ P = putQ ((PL.take k).foldl putQ P) q := by
 rw [zJ h, ia]; rfl
def aOA {q : Pq} (h : okQ q = true) : (∀ i, i < q.many → q.at_ + q.by_ * i < 256) ∧ q.many ≤ 8 ∧ q.by_ ≤ 16 ∧ ∀ x, q.x = some x → x.length = q.many := by
 simp only [okQ, aq, List.all_eq_true, gd] at h
 obtain ⟨⟨⟨h1, h2⟩, h3⟩, h4⟩ := h
 refine ⟨fun i hi => dq (Nat.lt_succ_self _) (ae (h1 i hi)), ae h2, ae h3, fun x hx => ?_⟩
 rw [hx] at h4
 exact bj h4
def aTo {k : Nat} {q : Pq} (h : PL[k]? = some q) : okQ q = true := List.all_eq_true.1 aT3 q (bq h)
def aOR {α : Type} {P : List α} {j : Nat} (h : j < P.length) (x : α) : (P.set j x).take (j + 1) = P.take j ++ [x] := by
 rw [dg, if_pos h, jk, Lt_, eq o_m, f0, List.take_take]
 rw [Nat.min_eq_right o_m]; rfl
structure qT (f : Nat → Opr) (P : List Opr) (j : Nat) : Prop where
 len : P.length = 256
 part : P.take j = (List.range j).map f
def qT.start (f : Nat → Opr) {P : List Opr} (h : P.length = 256) : qT f P 0 := ⟨h, y_eR⟩
def qT.step {f : Nat → Opr} {P : List Opr} {j : Nat} (h : qT f P j) (hj : j < 256) : qT f (P.set j (f j)) (j + 1) :=
 ⟨by rw [ca, h.len], by rw [aOR (by rw [h.len]; exact hj), h.part, d7, be]; rfl⟩
def qT.all {f : Nat → Opr} {P : List Opr} (h : qT f P 256) : P = (List.range 256).map f := by
 have := h.part
 rwa [c8 (by rw [h.len]; exact av _)] at this
def iI (u1 u2 u3 : AH) (P B : List Opr) : AA := u1 :: u2 :: u3 :: (aF cO P ++ aF cO B)
section
variable {u1 u2 u3 : AH} {P B : List Opr}
def tabL_len (hP : P.length = 256) (hB : B.length = 256) : (iI u1 u2 u3 P B).length = 2563 := by
 simp [iI, bM cO_len, hP, hB]
def uT {α : Type} {c : α → AA} {s : Nat} (hc : ∀ x, (c x).length = s) (X : AA) (l : List α) (Z : AA) {i : Nat} (hi : i < l.length) (y : α) : aO (X ++ (aF c l ++ Z)) (X.length + i * s) (c y) = X ++ (aF c (l.set i y) ++ Z) := by
 have h1 : l = l.take i ++ l[i] :: l.drop (i + 1) := uJ hi
 have h2 : l.set i y = l.take i ++ y :: l.drop (i + 1) := by rw [dg, if_pos hi]
 have hl : (X ++ aF c (l.take i)).length = X.length + i * s := by rw [La_, bM hc, Lt_, eq o_m]
 have h := nH (X ++ aF c (l.take i)) (c l[i]) (aF c (l.drop (i + 1)) ++ Z) (c y) (by rw [hc, hc])
 rw [hl] at h
 have e1 : X ++ (aF c l ++ Z) = X ++ aF c (l.take i) ++ (c l[i] ++ (aF c (l.drop (i + 1)) ++ Z)) := by
  conv => lhs; rw [h1]
  rw [gJ, kB]; simp only [As_]
 have e2 : X ++ (aF c (l.set i y) ++ Z) = X ++ aF c (l.take i) ++ (c y ++ (aF c (l.drop (i + 1)) ++ Z)) := by
  rw [h2, gJ, kB]; simp only [As_]
 rw [e1, e2]; exact h
def nC (hP : P.length = 256) {i : Nat} (hi : i < 256) (x : Opr) : aO (iI u1 u2 u3 P B) (3 + i * 5) (cO x) = iI u1 u2 u3 (P.set i x) B :=
 uT cO_len [u1, u2, u3] P (aF cO B) o_m x
def aLw (hP : P.length = 256) (hB : B.length = 256) {i : Nat} (hi : i < 256) (x : Opr) : aO (iI u1 u2 u3 P B) (1283 + i * 5) (cO x) = iI u1 u2 u3 P (B.set i x) := by
 have h := uT cO_len (u1 :: u2 :: u3 :: aF cO P) B [] (i := i) o_m x
 have hl : (u1 :: u2 :: u3 :: aF cO P).length = 1283 := by simp [bM cO_len, hP]
 rw [hl] at h
 simpa [iI] using h
def aMh {w : AI} {b : Nat} (h : Row w b 0 (iI u1 u2 u3 P B)) {i : Nat} {x : Opr} (hi : P[i]? = some x) : Row w b (3 + i * 5) (cO x) := by
 have h1 : Row w b 3 (aF cO P ++ aF cO B) := fun j v hv => by
  have := h (3 + j) v (by rw [ir]; exact hv)
  rwa [bi] at this
 exact Row.nth' cO_len h1.left hi
def aKA {w : AI} {b : Nat} (hP : P.length = 256) (h : Row w b 0 (iI u1 u2 u3 P B)) {i : Nat} {x : Opr} (hi : B[i]? = some x) : Row w b (1283 + i * 5) (cO x) := by
 have h1 : Row w b 1283 (aF cO B) := fun j v hv => by
  have := h (1283 + j) v (by
   have e : iI u1 u2 u3 P B = (u1 :: u2 :: u3 :: aF cO P) ++ aF cO B := by simp [iI]
   have hl : (u1 :: u2 :: u3 :: aF cO P).length = 1283 := by simp [bM cO_len, hP]
   rw [e, ea o_m, hl, f0]; exact hv)
  rwa [bi] at this
 exact Row.nth' cO_len h1 hi
end
def aAp (o : Opr) (b w : Int) : Opr := { o with n := if o.size = 2 then b else if o.size = 3 then w else o.n }
def aAe (b : Int) : Opr := if b / 64 = 0 then ⟨17, b / 8 % 8, b % 8, 2, 0⟩ else ⟨43 + b / 64, b / 8 % 8, b % 8, 2, 0⟩
def dcd (a b c : Int) : Opr := if a = 203 then aAe b else aAp (rJ.getD a.toNat o0) b (b + 256 * c)
def aRd : (List.range 256).all (fun b => decide (b1 b = aAe (b : Nat))) = true := by kernel_rfl
def aTz {b : Nat} (h : b < 256) : b1 b = aAe (b : Nat) := by
 have := List.all_eq_true.1 aRd b (List.mem_range.2 h)
 simpa using this
def aOp {b : Nat} (h : b < 256) : tabB[b]? = some (aAe (b : Nat)) := by
 rw [← aTz h, tabB, cq, gq h]; rfl
def aGU : rJ.length = 256 := by kernel_rfl
def aML {a : Nat} (h : a < 256) : rJ[a]? = some (rJ.getD a o0) := by
 rw [Gd_, ak (by rw [aGU]; exact h)]; rfl
def aDC {a b c : Int} (h : a = 203) : dcd a b c = aAe b := by unfold dcd; rw [if_pos h]
def sU {a b c : Int} {m : Nat} {o : Opr} (ha : a = (m : Int)) (h : ¬ a = 203) (ho : rJ[m]? = some o) : dcd a b c = aAp o b (b + 256 * c) := by
 unfold dcd
 rw [if_neg h, ha, co, Gd_, ho]; rfl
def aFz {o : Opr} (h : o.size = 2) (b w : Int) : aAp o b w = ⟨o.kind, o.x, o.y, o.size, b⟩ := by unfold aAp; rw [if_pos h]
def aGL {o : Opr} (h : o.size = 3) (b w : Int) : aAp o b w = ⟨o.kind, o.x, o.y, o.size, w⟩ := by unfold aAp; rw [if_neg o_m, if_pos h]
def aFc {o : Opr} (h : ¬ o.size = 2) (h3 : ¬ o.size = 3) (b w : Int) : aAp o b w = o := by unfold aAp; rw [if_neg h, if_neg h3]
def aFw {b c : Int} (hb : 0 ≤ b ∧ b < 256) (hc : 0 ≤ c ∧ c < 256) : bor .u16 b (shl .u16 c 8) = b + 256 * c := by
 obtain ⟨m, rfl⟩ : ∃ m : Nat, b = m := ⟨b.toNat, y_y⟩
 obtain ⟨n, rfl⟩ : ∃ n : Nat, c = n := ⟨c.toNat, y_y⟩
 have h1 : shl .u16 (n : Int) 8 = ((n * 256 : Nat) : Int) := by
  unfold shl
  have : (min (8 : Int).toNat IntKind.u16.bits) = 8 := by decide
  rw [this, gF]; omega
 rw [h1]
 unfold bor
 have h2 : (BitVec.ofInt IntKind.u16.bits (m : Int) ||| BitVec.ofInt IntKind.u16.bits ((n * 256 : Nat) : Int)).toNat = n * 256 + m := by
  have e1 : BitVec.ofInt IntKind.u16.bits (m : Int) = BitVec.ofNat 16 m := by simp [IntKind.bits]
  have e2 : BitVec.ofInt IntKind.u16.bits ((n * 256 : Nat) : Int) = BitVec.ofNat 16 (n * 256) := by simp only [IntKind.bits]; exact BitVec.ofInt_natCast ..
  rw [e1, e2]
  have e3 : (BitVec.ofNat 16 m ||| BitVec.ofNat 16 (n * 256)).toNat = (m % 65536) ||| (n * 256 % 65536) := by simp
  have e4 : m % 65536 = m := by omega
  have e5 : n * 256 % 65536 = n * 256 := by omega
  have e6 : n * 256 ||| m = n * 256 + m := by
   have := Nat.shiftLeft_add_eq_or_of_lt (i := 8) (b := m) o_m n
   rw [jo] at this
   simpa using this.symm
  exact e3.trans (by rw [e4, e5, jz, e6])
 rw [h2, gF]; omega
def aUL (o : Opr) : Bool := decide (1 ≤ o.kind ∧ o.kind ≤ 46 ∧ 1 ≤ o.size ∧ o.size ≤ 3 ∧ 0 ≤ o.n ∧ o.n < 256)
def aRZ : rJ.all aUL = true := by kernel_rfl
def aSr {m : Nat} {o : Opr} (h : rJ[m]? = some o) : 1 ≤ o.kind ∧ o.kind ≤ 46 ∧ 1 ≤ o.size ∧ o.size ≤ 3 ∧ 0 ≤ o.n ∧ o.n < 256 :=
 ct (List.all_eq_true.1 aRZ o (bq h))
def aB5 {a : Int} (h0 : 0 ≤ a) (h : a < 256) : ∃ m : Nat, ∃ o, a = (m : Int) ∧ m < 256 ∧ rJ[m]? = some o :=
 ⟨a.toNat, _, y_y, y_y, aML o_m⟩
structure Fine (a : Int) (o : Opr) : Prop where
 kind : 1 ≤ o.kind ∧ o.kind ≤ 46
 size : 1 ≤ o.size ∧ o.size ≤ 3
 num : 0 ≤ o.n ∧ o.n < 65536
 small : o.size = 3 ∨ o.n < 256
def aNE {b : Int} (hb : 0 ≤ b ∧ b < 256) : Fine 203 (aAe b) := by
 unfold aAe
 split <;> exact ⟨⟨y_B, y_B⟩, ⟨y_B, y_B⟩, ⟨y_B, y_B⟩, .inr y_ed⟩
def aFD {a b c : Int} (ha : 0 ≤ a ∧ a < 256) (hb : 0 ≤ b ∧ b < 256) (hc : 0 ≤ c ∧ c < 256) : Fine a (dcd a b c) := by
 by_cases h : a = 203
 ·rw [aDC h, h]; exact aNE hb
 ·obtain ⟨m, o, hm, _, ho⟩ := aB5 ha.1 ha.2
  have hr := aSr ho
  rw [sU hm h ho]
  by_cases h2 : o.size = 2
  ·rw [aFz h2]; exact ⟨⟨hr.1, hr.2.1⟩, ⟨hr.2.2.1, hr.2.2.2.1⟩, ⟨hb.1, y_B⟩, .inr hb.2⟩
  ·by_cases h3 : o.size = 3
   ·rw [aGL h3]; exact ⟨⟨hr.1, hr.2.1⟩, ⟨hr.2.2.1, hr.2.2.2.1⟩, ⟨y_B, y_B⟩, .inl h3⟩
   ·rw [aFc h2 h3]; exact ⟨⟨hr.1, hr.2.1⟩, ⟨hr.2.2.1, hr.2.2.2.1⟩, ⟨hr.2.2.2.2.1, y_y⟩, .inr hr.2.2.2.2.2⟩
def b2i (c : Bool) : Int := if c = true then 1 else 0
def fl (z n h c : Bool) : Int := (if z = true then 128 else 0) + (if n = true then 64 else 0) + (if h = true then 32 else 0) + (if c = true then 16 else 0)
def zF (f : Int) : Bool := f / 128 == 1
def nF (f : Int) : Bool := f / 64 % 2 == 1
def hF (f : Int) : Bool := f / 32 % 2 == 1
def cF (f : Int) : Bool := f / 16 % 2 == 1
def oK (a b : Int) (c : Bool) : Int := (a + b + b2i c) % 256
def aAR (a b : Int) (c : Bool) : Int := fl (oK a b c == 0) false (decide (15 < a % 16 + b % 16 + b2i c)) (decide (255 < a + b + b2i c))
def oY (a b : Int) (c : Bool) : Int := (a - b - b2i c) % 256
def rM (a b : Int) (c : Bool) : Int := fl (oY a b c == 0) true (decide (a % 16 < b % 16 + b2i c)) (decide (a < b + b2i c))
def rW (k : Int) (r : Int) : Int := fl (r == 0) false (k == 0) false
def aAt (a : Int) : Int := (a + 1) % 256
def aI2 (a f : Int) : Int := fl (aAt a == 0) false (a % 16 == 15) (cF f)
def aAr (a : Int) : Int := (a - 1) % 256
def aIk (a f : Int) : Int := fl (aAr a == 0) true (a % 16 == 0) (cF f)
def daaC (a f : Int) : Bool := cF f || (!nF f && decide (153 < a))
def daaL (a f : Int) : Bool := hF f || (!nF f && decide (9 < a % 16))
def fg (x : Int) (b : Bool) : Int := if b = true then x else 0
def daaB (a f : Int) : Int := fg 6 (daaL a f) + fg 96 (daaC a f)
def tH (a f : Int) : Int := if nF f = true then (a - daaB a f) % 256 else (a + daaB a f) % 256
def aJt (a f : Int) : Int := fl (tH a f == 0) (nF f) false (daaC a f)
def turnO (k a : Int) : Bool := if k % 8 = 6 then false else if k % 8 = 0 ∨ k % 8 = 2 ∨ k % 8 = 4 then a / 128 == 1 else a % 2 == 1
def eC (k a f : Int) : Int :=
 if k % 8 = 0 then a * 2 % 256 + a / 128 else if k % 8 = 1 then a / 2 + a % 2 * 128 else if k % 8 = 2 then a * 2 % 256 + b2i (cF f) else if k % 8 = 3 then a / 2 + b2i (cF f) * 128
 else if k % 8 = 4 then a * 2 % 256 else if k % 8 = 5 then a / 2 + a / 128 * 128 else if k % 8 = 6 then a % 16 * 16 + a / 16 else a / 2
def iJ (k a f : Int) : Int := fl (eC k a f == 0) false false (turnO k a)
def aIB (n a f : Int) : Int := fl (a / 2 ^ (n % 8).toNat % 2 == 0) false true (cF f)
def sM (a b : Int) : Int := (a + b) % 65536
def xF (a b f : Int) : Int := fl (zF f) false (decide (4095 < a % 4096 + b % 4096)) (decide (65535 < a + b))
def s8 (e : Int) : Int := if 127 < e then e - 256 else e
def shR (a e : Int) : Int := (a + s8 e) % 65536
def shF (a e : Int) : Int := fl false false (decide (15 < a % 16 + e % 16)) (decide (255 < a % 256 + e))
def aFS (z h c : Bool) : bor .u8 (bor .u8 (fg 128 z) (fg 32 h)) (fg 16 c) = fl z false h c := by cases z <;> cases h <;> cases c <;> decide
def aHC (z h c : Bool) : bor .u8 (bor .u8 (bor .u8 (fg 128 z) 64) (fg 32 h)) (fg 16 c) = fl z true h c := by cases z <;> cases h <;> cases c <;> decide
def aUE (z : Bool) : bor .u8 (fg 128 z) 32 = fl z false true false := by cases z <;> decide
def aS6 (z : Bool) : fg 128 z = fl z false false false := by cases z <;> decide
def aSD (z c : Bool) : bor .u8 (bor .u8 (fg 128 z) 32) (fg 16 c) = fl z false true c := by cases z <;> cases c <;> decide
def aSW (z n c : Bool) : bor .u8 (bor .u8 (fg 128 z) (fg 64 n)) (fg 16 c) = fl z n false c := by cases z <;> cases n <;> cases c <;> decide
def or_zc (z c : Bool) : bor .u8 (fg 128 z) (fg 16 c) = fl z false false c := by cases z <;> cases c <;> decide
def aUF (h c : Bool) : bor .u8 (fg 32 h) (fg 16 c) = fl false false h c := by cases h <;> cases c <;> decide
def aFm (x k : Int) (v : Int) : v / k % 2 * x = fg x (v / k % 2 == 1) := by
 unfold fg
 rcases (show v / k % 2 = 0 ∨ v / k % 2 = 1 by omega) with h | h <;> rw [h] <;> simp
def aJr (f : Int) : f / 16 % 2 * 16 = fg 16 (cF f) := aFm 16 16 f
def aUr (f : Int) : f / 64 % 2 * 64 = fg 64 (nF f) := aFm 64 64 f
def aUv {f : Int} (h : 0 ≤ f ∧ f < 256) : f / 128 % 2 * 128 = fg 128 (zF f) := by
 rw [aFm 128 128 f]
 unfold zF
 rw [show f / 128 % 2 = f / 128 by omega]
def aS5 (z h c : Bool) : bor .u8 (bor .u8 (fg 128 z) (fg 32 h)) (fg 16 c) = fl z false h c := aFS z h c
def aP9 {e : Int} (h : 0 ≤ e ∧ e < 256) : IntKind.wrap .i8 e = s8 e :=
 aX (p := fun e => IntKind.wrap .i8 e = s8 e) y_z h.1 h.2
def aGM (n : Int) (j : Nat) (hj : j < 60) : aH .i64 n (2 ^ j - 1 : Nat) = n % (2 ^ j : Nat) := by
 have h1 : 2 ^ j < 2 ^ 60 := Nat.pow_lt_pow_right y_b hj
 have hp : 0 < 2 ^ j := jw j
 have h2 : (BitVec.ofInt 64 n &&& BitVec.ofInt 64 ((2 ^ j - 1 : Nat) : Int)).toNat = (n % (2 ^ j : Nat)).toNat := by
  rw [gk, ez, ez]
  have e1 : (((2 ^ j - 1 : Nat) : Int) % ((2 ^ 64 : Nat) : Int)).toNat = 2 ^ j - 1 := by omega
  rw [e1, er]
  obtain ⟨q, hq⟩ : (2 ^ j : Nat) ∣ 2 ^ 64 := Nat.pow_dvd_pow 2 o_m
  have h3 : n % ((2 ^ 64 : Nat) : Int) % ((2 ^ j : Nat) : Int) = n % ((2 ^ j : Nat) : Int) := Int.emod_emod_of_dvd n (by rw [hq]; exact ⟨q, by push_cast; rfl⟩)
  have h4 : 0 ≤ n % ((2 ^ 64 : Nat) : Int) := et _ y_b
  rw [← h3, Int.toNat_emod h4 (f6 _), co]
 show IntKind.wrap .i64 ((BitVec.ofInt 64 n &&& BitVec.ofInt 64 ((2 ^ j - 1 : Nat) : Int)).toNat : Int) = _
 rw [h2]
 have h5 : 0 ≤ n % ((2 ^ j : Nat) : Int) := et _ o_m
 have h6 : n % ((2 ^ j : Nat) : Int) < ((2 ^ j : Nat) : Int) := fh _ o_m
 rw [dh h5]
 exact aL o_m o_m
def aPC (n : Int) : aH .i64 n 7 = n % 8 := aGM n 3 y_b
def aNx (n : Int) {a : Int} (h : 0 ≤ a ∧ a < 256) : 0 ≤ a / 2 ^ (n % 8).toNat ∧ a / 2 ^ (n % 8).toNat < 256 := by
 have hp : 0 < (2 : Int) ^ (n % 8).toNat := f8 y_b
 refine ⟨jv h.1 o_m, ?_⟩
 exact Int.lt_of_le_of_lt (jn _ h.1) h.2
def aRW {a m : Int} (h : 0 ≤ m ∧ m < 8) : shr .u8 a m = a / 2 ^ m.toNat := by
 unfold shr
 rw [show min m.toNat (IntKind.bits .u8) = m.toNat from eq (by show m.toNat ≤ 8; omega)]
 exact ec _ (jp (f8 y_b))
def aL8 {p : Int → Bool → Prop} (h : ∀ n : Fin 256, ∀ b : Bool, p (n.val : Int) b) {x : Int} (hx : 0 ≤ x ∧ x < 256) (b : Bool) : p x b := aX (p := fun x => p x b) (fun n => h n b) hx.1 hx.2
def aT4 {f : Int} (h : 0 ≤ f ∧ f < 256) : (aH .u8 f 64 != 0) = nF f := aX (p := fun f => (aH .u8 f 64 != 0) = nF f) y_z h.1 h.2
def aT0 {f : Int} (h : 0 ≤ f ∧ f < 256) : (aH .u8 f 32 != 0) = hF f := aX (p := fun f => (aH .u8 f 32 != 0) = hF f) y_z h.1 h.2
def aIi {f : Int} (h : 0 ≤ f ∧ f < 256) : (aH .u8 f 16 != 0) = cF f := aX (p := fun f => (aH .u8 f 16 != 0) = cF f) y_z h.1 h.2
def aPB {f : Int} (h : 0 ≤ f ∧ f < 256) : (aH .u8 f 128 != 0) = zF f := aX (p := fun f => (aH .u8 f 128 != 0) = zF f) y_z h.1 h.2
def aLa {f : Int} (h : 0 ≤ f ∧ f < 256) : aH .u8 f 16 = fg 16 (cF f) := aX (p := fun f => aH .u8 f 16 = fg 16 (cF f)) y_z h.1 h.2
def aUn (c : Bool) : (fg 16 c != 0) = c := by cases c <;> decide
def or_96 (c : Bool) : bor .u8 (fg 6 c) 96 = fg 6 c + 96 := by cases c <;> decide
def aUy (c : Bool) : shr .u8 (fg 16 c) 4 = b2i c := by cases c <;> decide
def aTT {a : Int} (h : 0 ≤ a ∧ a < 256) (c : Bool) : bor .u8 (a * 2 % 256) (b2i c) = a * 2 % 256 + b2i c := aL8 (p := fun a c => bor .u8 (a * 2 % 256) (b2i c) = a * 2 % 256 + b2i c) y_z h c
def aQ1 {a : Int} (h : 0 ≤ a ∧ a < 256) (c : Bool) : bor .u8 (a / 2) (b2i c * 128) = a / 2 + b2i c * 128 := aL8 (p := fun a c => bor .u8 (a / 2) (b2i c * 128) = a / 2 + b2i c * 128) y_z h c
def aQh {a : Int} (h : 0 ≤ a ∧ a < 256) : bor .u8 (a / 2) (a % 2 * 128) = a / 2 + a % 2 * 128 := aX (p := fun a => bor .u8 (a / 2) (a % 2 * 128) = a / 2 + a % 2 * 128) y_z h.1 h.2
def aRc {a : Int} (h : 0 ≤ a ∧ a < 256) : bor .u8 (a / 2) (a / 128 % 2 * 128) = a / 2 + a / 128 * 128 := aX (p := fun a => bor .u8 (a / 2) (a / 128 % 2 * 128) = a / 2 + a / 128 * 128) y_z h.1 h.2
def aUk {a : Int} (h : 0 ≤ a ∧ a < 256) : bor .u8 (shl .u8 a 1) (shr .u8 a 7) = a * 2 % 256 + a / 128 := aX (p := fun a => bor .u8 (shl .u8 a 1) (shr .u8 a 7) = a * 2 % 256 + a / 128) y_z h.1 h.2
def aUa {a : Int} (h : 0 ≤ a ∧ a < 256) : bor .u8 (shl .u8 a 4) (shr .u8 a 4) = a % 16 * 16 + a / 16 := aX (p := fun a => bor .u8 (shl .u8 a 4) (shr .u8 a 4) = a % 16 * 16 + a / 16) y_z h.1 h.2
def x16 {x : Int} (h : x = 0 ∨ x = 1) : x * 16 = fg 16 (x == 1) := by rcases h with rfl | rfl <;> decide
def aCi (c : Bool) : 0 ≤ b2i c ∧ b2i c ≤ 1 := by cases c <;> decide
def kU (z n h c : Bool) : 0 ≤ fl z n h c ∧ fl z n h c < 256 := by cases z <;> cases n <;> cases h <;> cases c <;> decide
structure CR where
 a : Int
 f : Int
 b : Int
 c : Int
 d : Int
 e : Int
 h : Int
 l : Int
 sp : Int
 pc : Int
deriving DecidableEq
structure CR.Ok (r : CR) : Prop where
 a : 0 ≤ r.a ∧ r.a < 256
 f : 0 ≤ r.f ∧ r.f < 256
 b : 0 ≤ r.b ∧ r.b < 256
 c : 0 ≤ r.c ∧ r.c < 256
 d : 0 ≤ r.d ∧ r.d < 256
 e : 0 ≤ r.e ∧ r.e < 256
 h : 0 ≤ r.h ∧ r.h < 256
 l : 0 ≤ r.l ∧ r.l < 256
 sp : 0 ≤ r.sp ∧ r.sp < 65536
 pc : 0 ≤ r.pc ∧ r.pc < 65536
def cR (r : CR) : AA := [.int .u8 r.a, .int .u8 r.f, .int .u8 r.b, .int .u8 r.c, .int .u8 r.d, .int .u8 r.e, .int .u8 r.h, .int .u8 r.l, .int .u16 r.sp, .int .u16 r.pc]
def r0 : CR := ⟨0, 0, 0, 0, 0, 0, 0, 0, 0, 0⟩
def aAy (r : CR) (n : Int) : Int := if n = 0 then r.b else if n = 1 then r.c else if n = 2 then r.d else if n = 3 then r.e else if n = 4 then r.h else if n = 5 then r.l else if n = 7 then r.a else 0
def pI (r : CR) (n x : Int) : CR :=
 if n = 0 then { r with b := x } else if n = 1 then { r with c := x } else if n = 2 then { r with d := x } else if n = 3 then { r with e := x } else if n = 4 then { r with h := x } else if n = 5 then { r with l := x } else if n = 7 then { r with a := x } else r0
def bH (r : CR) (n : Int) : Int := if n = 0 then r.b * 256 + r.c else if n = 1 then r.d * 256 + r.e else if n = 2 then r.h * 256 + r.l else if n = 3 then r.sp else if n = 4 then r.a * 256 + r.f / 16 * 16 else 0
def fB (r : CR) (n x : Int) : CR :=
 if n = 0 then { r with b := x / 256, c := x % 256 } else if n = 1 then { r with d := x / 256, e := x % 256 } else if n = 2 then { r with h := x / 256, l := x % 256 } else if n = 3 then { r with sp := x }
 else if n = 4 then { r with a := x / 256, f := x % 256 / 16 * 16 } else r0
def isR (r : CR) (n : Int) : Bool := if n = 0 then !zF r.f else if n = 1 then zF r.f else if n = 2 then !cF r.f else if n = 3 then cF r.f else n == 4
def atL (rb : Nat) : AA := [.pointer (some ⟨rb, 2, none⟩), .pointer (some ⟨rb, 3, none⟩), .pointer (some ⟨rb, 4, none⟩), .pointer (some ⟨rb, 5, none⟩), .pointer (some ⟨rb, 6, none⟩), .pointer (some ⟨rb, 7, none⟩), .pointer none, P_ rb]
def atV (rb : Nat) (n : Int) : AH := if n < 0 ∨ 8 ≤ n then .pointer none else (atL rb).getD n.toNat (.pointer none)
def NoR (n : Int) : Prop := n < 0 ∨ n = 6 ∨ 8 ≤ n
def aDW (n : Int) : n = 0 ∨ n = 1 ∨ n = 2 ∨ n = 3 ∨ n = 4 ∨ n = 5 ∨ n = 7 ∨ NoR n := by unfold NoR; omega
def aMy {n : Int} (h : NoR n) (rb : Nat) : atV rb n = .pointer none := by
 unfold NoR at h
 rcases h with h | h | h
 ·unfold atV; rw [if_pos (.inl h)]
 ·subst h; rfl
 ·unfold atV; rw [if_pos (.inr h)]
def aQO {n : Int} (h : NoR n) (r : CR) : aAy r n = 0 := by unfold NoR at h; unfold aAy; repeat rw [if_neg o_m]
def aRh {n : Int} (h : NoR n) (r : CR) (x : Int) : pI r n x = r0 := by unfold NoR at h; unfold pI; repeat rw [if_neg o_m]
def aFV {n : Int} (h : n < 0 ∨ 4 < n) (r : CR) : bH r n = 0 := by unfold bH; repeat rw [if_neg o_m]
def setPR_no {n : Int} (h : n < 0 ∨ 4 < n) (r : CR) (x : Int) : fB r n x = r0 := by unfold fB; repeat rw [if_neg o_m]
def sJ {h l : Int} (hh : 0 ≤ h ∧ h < 256) (hl : 0 ≤ l ∧ l < 256) : bor .u16 (h * 256) l = h * 256 + l := by
 have e : ∀ x y : Int, bor .u16 x y = bor .u16 y x := fun x y => by unfold bor; rw [BitVec.or_comm]
 have := aFw hl hh
 rw [e, show shl .u16 h 8 = h * 256 by unfold shl; exact fT (by show 0 ≤ h * 2 ^ 8; omega) (by show h * 2 ^ 8 < 65536; omega)] at this
 omega
def aRL {x : Nat} (h : x < 65536) : x &&& 65520 = x / 16 * 16 := by
 apply iw
 intro i
 rw [jx, show x / 16 * 16 = (x >>> 4) <<< 4 by rw [jd, jo], ik, Nat.testBit_shiftRight]
 have hb : ∀ i, i < 16 → Nat.testBit 65520 i = decide (4 ≤ i) := by decide
 by_cases hi : i < 16
 ·rw [hb i hi]
  by_cases h4 : 4 ≤ i
  ·rw [show 4 + (i - 4) = i by omega]; simp [h4]
  ·simp [h4]
 ·have hx : x.testBit i = false := Nat.testBit_lt_two_pow (dq h (show 2 ^ 16 ≤ 2 ^ i from fq y_b o_m))
  rw [show 4 + (i - 4) = i by omega, hx]; simp
def aSQ {x : Int} (h : 0 ≤ x ∧ x < 65536) : hQ .u16 x 15 = x / 16 * 16 := by
 obtain ⟨m, rfl⟩ : ∃ m : Nat, x = m := ⟨x.toNat, y_y⟩
 have h1 : (BitVec.ofInt 16 (m : Int) &&& ~~~BitVec.ofInt 16 15).toNat = m / 16 * 16 := by
  rw [gk, show (~~~BitVec.ofInt 16 15).toNat = 65520 by decide, show (BitVec.ofInt 16 (m : Int)).toNat = m by rw [ez]; omega]
  exact aRL o_m
 show IntKind.wrap .u16 ((BitVec.ofInt 16 (m : Int) &&& ~~~BitVec.ofInt 16 15).toNat : Int) = _
 rw [h1]
 exact (fT o_m o_m).trans o_m
def aUg {f : Int} (h : 0 ≤ f ∧ f < 256) : aH .u8 f 240 = f / 16 * 16 := aX (p := fun f => aH .u8 f 240 = f / 16 * 16) y_z h.1 h.2
def aMe {n : Int} (h : n = 0 ∨ n = 1) (r : CR) : (zF r.f == (n == 1)) = isR r n := by
 rcases h with rfl | rfl
 ·show (zF r.f == false) = !zF r.f; cases zF r.f <;> rfl
 ·show (zF r.f == true) = zF r.f; cases zF r.f <;> rfl
def aKq {n : Int} (h : n = 2 ∨ n = 3) (r : CR) : (cF r.f == (n == 3)) = isR r n := by
 rcases h with rfl | rfl
 ·show (cF r.f == false) = !cF r.f; cases cF r.f <;> rfl
 ·show (cF r.f == true) = cF r.f; cases cF r.f <;> rfl
def aUS {n : Int} (h0 : n ≠ 0) (h1 : n ≠ 1) (h2 : n ≠ 2) (h3 : n ≠ 3) (r : CR) : (n == 4) = isR r n := by unfold isR; rw [if_neg h0, if_neg h1, if_neg h2, if_neg h3]
def hiO (n : Int) : Nat := if n = 0 then 2 else if n = 1 then 4 else if n = 2 then 6 else 0
def loO (n : Int) : Nat := if n = 0 then 3 else if n = 1 then 5 else if n = 2 then 7 else 1
def aPp : r0.Ok := ⟨y_eP, y_eP, y_eP, y_eP, y_eP, y_eP, y_eP, y_eP, y_eP, y_eP⟩
def aKr {r : CR} (h : r.Ok) (n : Int) : 0 ≤ aAy r n ∧ aAy r n < 256 := by
 have h1 := h.a; have h2 := h.b; have h3 := h.c; have h4 := h.d; have h5 := h.e; have h6 := h.h; have h7 := h.l
 unfold aAy; repeat' split
 all_goals omega
def fV {r : CR} (h : r.Ok) (n : Int) : 0 ≤ bH r n ∧ bH r n < 65536 := by
 have h1 := h.a; have h2 := h.b; have h3 := h.c; have h4 := h.d; have h5 := h.e; have h6 := h.h; have h7 := h.l; have h8 := h.f; have h9 := h.sp
 unfold bH; repeat' split
 all_goals omega
def CR.Ok.set {r : CR} (h : r.Ok) (n : Int) {x : Int} (hx : 0 ≤ x ∧ x < 256) : (pI r n x).Ok := by
 unfold pI; repeat' split
 all_goals first | exact aPp | exact ⟨hx, h.f, h.b, h.c, h.d, h.e, h.h, h.l, h.sp, h.pc⟩ | exact ⟨h.a, h.f, hx, h.c, h.d, h.e, h.h, h.l, h.sp, h.pc⟩ | exact ⟨h.a, h.f, h.b, hx, h.d, h.e, h.h, h.l, h.sp, h.pc⟩ | exact ⟨h.a, h.f, h.b, h.c, hx, h.e, h.h, h.l, h.sp, h.pc⟩ | exact ⟨h.a, h.f, h.b, h.c, h.d, hx, h.h, h.l, h.sp, h.pc⟩ | exact ⟨h.a, h.f, h.b, h.c, h.d, h.e, hx, h.l, h.sp, h.pc⟩ | exact ⟨h.a, h.f, h.b, h.c, h.d, h.e, h.h, hx, h.sp, h.pc⟩
def CR.Ok.setP {r : CR} (h : r.Ok) (n : Int) {x : Int} (hx : 0 ≤ x ∧ x < 65536) : (fB r n x).Ok := by
 have hh : 0 ≤ x / 256 ∧ x / 256 < 256 := by omega
 have hl : 0 ≤ x % 256 ∧ x % 256 < 256 := by omega
 have hf : 0 ≤ x % 256 / 16 * 16 ∧ x % 256 / 16 * 16 < 256 := by omega
 unfold fB; repeat' split
 all_goals first | exact aPp | exact ⟨h.a, h.f, hh, hl, h.d, h.e, h.h, h.l, h.sp, h.pc⟩ | exact ⟨h.a, h.f, h.b, h.c, hh, hl, h.h, h.l, h.sp, h.pc⟩ | exact ⟨h.a, h.f, h.b, h.c, h.d, h.e, hh, hl, h.sp, h.pc⟩ | exact ⟨h.a, h.f, h.b, h.c, h.d, h.e, h.h, h.l, hx, h.pc⟩ | exact ⟨hh, hf, h.b, h.c, h.d, h.e, h.h, h.l, h.sp, h.pc⟩
end Go.Proofs.YtacejanlmhbddaaGreat
