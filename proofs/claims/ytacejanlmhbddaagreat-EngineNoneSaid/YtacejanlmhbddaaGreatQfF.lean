/- Parts. -/
import Derived.Test.YtacejanlmhbddaaGreatQfE
set_option maxRecDepth 100000
set_option maxHeartbeats 1000000
set_option linter.all false
namespace Go.Proofs.YtacejanlmhbddaaGreat
open Go Go.VV Go.Proofs Go.RowKit
structure CS where
 r : CR
 ime : Bool
 soon : Bool
 halt : Bool
 stop : Bool
deriving DecidableEq
def cS (s : CS) : AA := cR s.r ++ [.bool s.ime, .bool s.soon, .bool s.halt, .bool s.stop]
structure Dd where
 what : Int
 n : Int
 at_ : Int
 op : Opr
 taken : Bool
def oN : Opr := ⟨0, 0, 0, 0, 0⟩
def cDd (d : Dd) : AA := [.int .i64 d.what, .int .i64 d.n, .int .u16 d.at_] ++ cO d.op ++ [.bool d.taken]
structure aVg (β : Type) where
 fetch : Int → β → Int × β
 read : Int → β → Int × β
 write : Int → Int → β → β
 idle : β → β
 pend : β → Int
 ack : Int → β → β
structure Rn (β : Type) where
 s : CS
 m : β
def iT (w : Int) : Int := (w + 1) % 65536
def lF (w : Int) : Int := (w - 1) % 65536
def qZ (v n : Int) : Int := v - v / 2 ^ n.toNat % 2 * 2 ^ n.toNat
def wO (v n : Int) : Int := v + (1 - v / 2 ^ n.toNat % 2) * 2 ^ n.toNat
def jE (r : CR) (k b : Int) : CR :=
 if k = 0 then { r with a := oK r.a b false, f := aAR r.a b false } else if k = 1 then { r with a := oK r.a b (cF r.f), f := aAR r.a b (cF r.f) }
 else if k = 2 then { r with a := oY r.a b false, f := rM r.a b false } else if k = 3 then { r with a := oY r.a b (cF r.f), f := rM r.a b (cF r.f) }
 else if k = 4 then { r with a := aH .u8 r.a b, f := rW 0 (aH .u8 r.a b) } else if k = 5 then { r with a := kM .u8 r.a b, f := rW 2 (kM .u8 r.a b) }
 else if k = 6 then { r with a := bor .u8 r.a b, f := rW 1 (bor .u8 r.a b) } else if k = 7 then { r with f := rM r.a b false } else r
section
variable {β : Type}
def Rn.reg (x : Rn β) (r : CR) : Rn β := ⟨{ x.s with r := r }, x.m⟩
def Rn.mem (x : Rn β) (m : β) : Rn β := ⟨x.s, m⟩
variable (A : aVg β)
def gett (n : Int) (x : Rn β) : Int × Rn β := if n = 6 then ((A.read (bH x.s.r 2) x.m).1, x.mem (A.read (bH x.s.r 2) x.m).2) else (aAy x.s.r n, x)
def sett (n v : Int) (x : Rn β) : Rn β := if n = 6 then x.mem (A.write (bH x.s.r 2) v x.m) else x.reg (pI x.s.r n v)
def push1 (v : Int) (x : Rn β) : Rn β := ⟨{ x.s with r := { x.s.r with sp := lF x.s.r.sp } }, A.write (lF x.s.r.sp) v x.m⟩
def push (w : Int) (x : Rn β) : Rn β := push1 A (w % 256) (push1 A (w / 256) x)
def pop1 (x : Rn β) : Int × Rn β := ((A.read x.s.r.sp x.m).1, ⟨{ x.s with r := { x.s.r with sp := iT x.s.r.sp } }, (A.read x.s.r.sp x.m).2⟩)
def pop (x : Rn β) : Int × Rn β := ((pop1 A (pop1 A x).2).1 * 256 + (pop1 A x).1, (pop1 A (pop1 A x).2).2)
def idles : Nat → Rn β → Rn β
 | 0, x => x
 | n + 1, x => (idles n x).mem (A.idle (idles n x).m)
def change (n : Int) (g : Int → Int → Int × Int) (x : Rn β) : Rn β :=
 let q := gett A n x
 let y := sett A n (g q.1 q.2.s.r.f).1 q.2
 y.reg { y.s.r with f := (g q.1 q.2.s.r.f).2 }
def far (n : Int) (x : Rn β) : Int × Rn β :=
 if n < 2 then (bH x.s.r n, x) else (bH x.s.r 2, x.reg (fB x.s.r 2 (if n = 2 then iT (bH x.s.r 2) else lF (bH x.s.r 2))))
def goto (w : Int) (x : Rn β) : Rn β := x.reg { x.s.r with pc := w }
def isB (k : Int) : Bool := decide (k = 7 ∨ k = 8 ∨ (10 ≤ k ∧ k ≤ 13) ∨ (17 ≤ k ∧ k ≤ 22) ∨ (44 ≤ k ∧ k ≤ 46))
def fE (o : Opr) (x : Rn β) : Rn β :=
 if o.kind = 7 then sett A o.x (gett A o.y x).1 (gett A o.y x).2
 else if o.kind = 8 then sett A o.x (o.n % 256) x
 else if o.kind = 10 then (gett A o.y x).2.reg (jE (gett A o.y x).2.s.r o.x (gett A o.y x).1)
 else if o.kind = 11 then x.reg (jE x.s.r o.x (o.n % 256))
 else if o.kind = 12 then change A o.x (fun v f => (aAt v, aI2 v f)) x
 else if o.kind = 13 then change A o.x (fun v f => (aAr v, aIk v f)) x
 else if o.kind = 17 then change A o.y (fun v f => (eC o.x v f, iJ o.x v f)) x
 else if o.kind = 18 then x.reg { x.s.r with a := eC o.x x.s.r.a x.s.r.f, f := fl false false false (turnO o.x x.s.r.a) }
 else if o.kind = 44 then (gett A o.y x).2.reg { (gett A o.y x).2.s.r with f := aIB o.x (gett A o.y x).1 x.s.r.f }
 else if o.kind = 45 then sett A o.y (qZ (gett A o.y x).1 o.x) (gett A o.y x).2
 else if o.kind = 46 then sett A o.y (wO (gett A o.y x).1 o.x) (gett A o.y x).2
 else if o.kind = 19 then x.reg { x.s.r with a := tH x.s.r.a x.s.r.f, f := aJt x.s.r.a x.s.r.f }
 else if o.kind = 20 then x.reg { x.s.r with a := 255 - x.s.r.a, f := fl (zF x.s.r.f) true true (cF x.s.r.f) }
 else if o.kind = 21 then x.reg { x.s.r with f := fl (zF x.s.r.f) false false true }
 else if o.kind = 22 then x.reg { x.s.r with f := fl (zF x.s.r.f) false false (!cF x.s.r.f) }
 else x
def isW (k : Int) : Bool := decide (k = 9 ∨ (14 ≤ k ∧ k ≤ 16) ∨ k = 30 ∨ k = 31 ∨ (40 ≤ k ∧ k ≤ 43))
def iF (o : Opr) (x : Rn β) : Rn β :=
 if o.kind = 9 then x.reg (fB x.s.r o.x o.n)
 else if o.kind = 14 then idles A 1 (x.reg (fB x.s.r o.x (iT (bH x.s.r o.x))))
 else if o.kind = 15 then idles A 1 (x.reg (fB x.s.r o.x (lF (bH x.s.r o.x))))
 else if o.kind = 16 then idles A 1 (x.reg (fB { x.s.r with f := xF (bH x.s.r 2) (bH x.s.r o.x) x.s.r.f } 2 (sM (bH x.s.r 2) (bH x.s.r o.x))))
 else if o.kind = 41 then idles A 2 (x.reg { x.s.r with sp := shR x.s.r.sp (o.n % 256), f := shF x.s.r.sp (o.n % 256) })
 else if o.kind = 42 then idles A 1 (x.reg (fB { x.s.r with f := shF x.s.r.sp (o.n % 256) } 2 (shR x.s.r.sp (o.n % 256))))
 else if o.kind = 43 then idles A 1 (x.reg { x.s.r with sp := bH x.s.r 2 })
 else if o.kind = 30 then push A (bH (idles A 1 x).s.r o.x) (idles A 1 x)
 else if o.kind = 31 then (pop A x).2.reg (fB (pop A x).2.s.r o.x (pop A x).1)
 else if o.kind = 40 then x.mem (A.write (iT o.n) (x.s.r.sp / 256) (A.write o.n (x.s.r.sp % 256) x.m))
 else x
def isP (k : Int) : Bool := decide (32 ≤ k ∧ k ≤ 39)
def place (o : Opr) (x : Rn β) : Int × Rn β :=
 if o.kind = 32 ∨ o.kind = 33 then far o.x x else if o.kind = 34 ∨ o.kind = 35 then (65280 + o.n % 256, x) else if o.kind = 36 ∨ o.kind = 37 then (65280 + x.s.r.c, x) else (o.n, x)
def kG (o : Opr) (x : Rn β) : Rn β :=
 let p := place o x
 if o.kind = 32 ∨ o.kind = 34 ∨ o.kind = 36 ∨ o.kind = 38 then ⟨{ p.2.s with r := { p.2.s.r with a := (A.read p.1 p.2.m).1 } }, (A.read p.1 p.2.m).2⟩
 else p.2.mem (A.write p.1 p.2.s.r.a p.2.m)
def metJ (o : Opr) (x : Rn β) : Bool := !(decide (23 ≤ o.kind ∧ o.kind ≤ 26)) || isR x.s.r o.x
def effJ (o : Opr) (x0 : Rn β) : Rn β :=
 let x := if o.kind = 26 ∧ o.x ≠ 4 then idles A 1 x0 else x0
 if metJ o x0 = false then x
 else if o.kind = 23 then goto ((x.s.r.pc + s8 (o.n % 256)) % 65536) (idles A 1 x)
 else if o.kind = 24 then goto o.n (idles A 1 x)
 else if o.kind = 25 ∨ o.kind = 28 then goto o.n (push A x.s.r.pc (idles A 1 x))
 else if o.kind = 27 then idles A 1 (goto (pop A ⟨{ x.s with ime := true }, x.m⟩).1 (pop A ⟨{ x.s with ime := true }, x.m⟩).2)
 else if o.kind = 26 then idles A 1 (goto (pop A x).1 (pop A x).2)
 else if o.kind = 29 then goto (bH x.s.r 2) x
 else x
def ordT (o : Opr) (at_ : Int) (x : Rn β) : Bool × Rn β :=
 if o.kind = 2 then (true, ⟨{ x.s with stop := true }, x.m⟩)
 else if o.kind = 3 then (true, ⟨{ x.s with halt := true }, x.m⟩)
 else if o.kind = 4 then (true, goto at_ x)
 else if o.kind = 5 then (true, ⟨{ x.s with ime := false }, x.m⟩)
 else if o.kind = 6 then (true, ⟨{ x.s with soon := true }, x.m⟩)
 else if isB o.kind = true then (true, fE A o x)
 else if isW o.kind = true then (true, iF A o x)
 else if isP o.kind = true then (true, kG A o x)
 else (metJ o x, effJ A o x)
def fetch1 (x : Rn β) : Int × Rn β := ((A.fetch x.s.r.pc x.m).1, ⟨{ x.s with r := { x.s.r with pc := iT x.s.r.pc } }, (A.fetch x.s.r.pc x.m).2⟩)
structure Nx (β : Type) where
 b : AB
 o : Opr
 x : Rn β
def nx1 (q : Nx β) (i : Nat) : Nx β :=
 let p := fetch1 A q.x
 let b := q.b.set i p.1
 ⟨b, dcd (b.getD 0 0) (b.getD 1 0) (b.getD 2 0), p.2⟩
def nx0 (x : Rn β) : Nx β := ⟨[0, 0, 0], ⟨0, 0, 0, 1, 0⟩, x⟩
def nxN (x : Rn β) : Nat → Nx β
 | 0 => nx0 x
 | n + 1 => nx1 A (nxN x n) n
def nextT (x : Rn β) : Opr × Rn β :=
 if ((nxN A x 1).o.size ≤ 1) then ((nxN A x 1).o, (nxN A x 1).x) else if ((nxN A x 2).o.size ≤ 2) then ((nxN A x 2).o, (nxN A x 2).x) else ((nxN A x 3).o, (nxN A x 3).x)
def lH (p : Int) : Int := if p % 2 = 1 then 0 else if p / 2 % 2 = 1 then 1 else if p / 4 % 2 = 1 then 2 else if p / 8 % 2 = 1 then 3 else 4
def vW (p : Int) (x : Rn β) : Rn β :=
 let y := push A x.s.r.pc (idles A 2 x)
 let z := idles A 1 (y.mem (A.ack (lH p) y.m))
 ⟨{ z.s with ime := false, soon := false, r := { z.s.r with pc := 64 + 8 * lH p } }, z.m⟩
def dJ (x : Rn β) : Dd × Rn β :=
 if x.s.stop = true then (⟨0, 0, x.s.r.pc, oN, false⟩, ⟨{ x.s with stop := A.pend (A.idle x.m) / 16 % 2 == 0 }, A.idle x.m⟩)
 else if x.s.halt = true ∧ A.pend x.m = 0 then (⟨0, 0, x.s.r.pc, oN, false⟩, x.mem (A.idle x.m))
 else
  let y : Rn β := ⟨{ x.s with halt := false }, x.m⟩
  if x.s.ime = true ∧ A.pend x.m ≠ 0 then (⟨2, lH (A.pend x.m), x.s.r.pc, oN, false⟩, vW A (A.pend x.m) y)
  else
   let q := nextT A ⟨{ y.s with soon := false }, y.m⟩
   let t := ordT A q.1 x.s.r.pc q.2
   (⟨1, 0, x.s.r.pc, q.1, t.1⟩, if x.s.soon = true ∧ q.1.kind ≠ 5 then ⟨{ t.2.s with ime := true }, t.2.m⟩ else t.2)
end
structure aVh (β : Type) extends aVg β where
 ok : Nat → β → Prop
 oF : ∀ {n : Nat} {m : β} {a : Int}, ok (n + 1) m → 0 ≤ a ∧ a < 65536 → ok n (fetch a m).2 ∧ 0 ≤ (fetch a m).1 ∧ (fetch a m).1 < 256
 oR : ∀ {n : Nat} {m : β} {a : Int}, ok (n + 1) m → 0 ≤ a ∧ a < 65536 → ok n (read a m).2 ∧ 0 ≤ (read a m).1 ∧ (read a m).1 < 256
 oW : ∀ {n : Nat} {m : β} {a x : Int}, ok (n + 1) m → 0 ≤ a ∧ a < 65536 → 0 ≤ x ∧ x < 256 → ok n (write a x m)
 oI : ∀ {n : Nat} {m : β}, ok (n + 1) m → ok n (idle m)
 oP : ∀ {n : Nat} {m : β}, ok n m → 0 ≤ pend m ∧ pend m < 32
 oA : ∀ {k : Nat} {m : β} {n : Int}, ok k m → 0 ≤ n ∧ n < 5 → ok k (ack n m)
 oL : ∀ {n k : Nat} {m : β}, ok n m → k ≤ n → ok k m
structure kF (P : AL) (β : Type) extends aVh β where
 t0 : AJ
 v : AH
 rep : β → aC → Prop
 fF : Nat
 fR : Nat
 fW : Nat
 fI : Nat
 fP : Nat
 fA : Nat
 mF : yE P t0 "Fetch" fF
 mR : yE P t0 "Read" fR
 mW : yE P t0 "Write" fW
 mI : yE P t0 "Idle" fI
 mP : yE P t0 "Pending" fP
 mA : yE P t0 "Ack" fA
 cF : dG P fF = true
 cR : dG P fR = true
 cW : dG P fW = true
 cI : dG P fI = true
 cP : dG P fP = true
 cA : dG P fA = true
 dF : ∀ {n : Nat} {m : β} {H : aC} {w : AI} {a : Int}, ok (n + 1) m → rep m H → St w (H.map (·.1)) H w → 0 ≤ a ∧ a < 65536 → aB P fF [v, .int .u16 a] w (H.map (·.1)) (fun u H' => u = .int .u8 (fetch a m).1 ∧ rep (fetch a m).2 H')
 dR : ∀ {n : Nat} {m : β} {H : aC} {w : AI} {a : Int}, ok (n + 1) m → rep m H → St w (H.map (·.1)) H w → 0 ≤ a ∧ a < 65536 → aB P fR [v, .int .u16 a] w (H.map (·.1)) (fun u H' => u = .int .u8 (read a m).1 ∧ rep (read a m).2 H')
 dW : ∀ {n : Nat} {m : β} {H : aC} {w : AI} {a x : Int}, ok (n + 1) m → rep m H → St w (H.map (·.1)) H w → 0 ≤ a ∧ a < 65536 → 0 ≤ x ∧ x < 256 → aB P fW [v, .int .u16 a, .int .u8 x] w (H.map (·.1)) (fun u H' => u = .tuple #[] ∧ rep (write a x m) H')
 dI : ∀ {n : Nat} {m : β} {H : aC} {w : AI}, ok (n + 1) m → rep m H → St w (H.map (·.1)) H w → aB P fI [v] w (H.map (·.1)) (fun u H' => u = .tuple #[] ∧ rep (idle m) H')
 dP : ∀ {n : Nat} {m : β} {H : aC} {w : AI}, ok n m → rep m H → St w (H.map (·.1)) H w → aB P fP [v] w (H.map (·.1)) (fun u H' => u = .int .u8 (pend m) ∧ H' = H)
 dA : ∀ {k : Nat} {m : β} {H : aC} {w : AI} {n : Int}, ok k m → rep m H → St w (H.map (·.1)) H w → 0 ≤ n ∧ n < 5 → aB P fA [v, .int .i64 n] w (H.map (·.1)) (fun u H' => u = .tuple #[] ∧ rep (ack n m) H')
instance {P : AL} {β : Type} : CoeOut (kF P β) (aVh β) := ⟨fun K => K.toaVh⟩
section
variable {P : AL} {β : Type} (K : kF P β)
def cN (s : CS) : AA := cS s ++ [.iface K.t0 K.v]
def qO (rb : Nat) (x : Rn β) (H : aC) : Prop := ∃ G, H = (rb, blk (cN K x.s) 321) :: G ∧ K.rep x.m G
def aAa (w : Int) (i : Nat) : Int := if i = 0 then w / 256 else w % 256
def pushN (A : aVg β) (w : Int) (x : Rn β) : Nat → Rn β
 | 0 => x
 | i + 1 => push1 A (aAa w i) (pushN A w x i)
def aJA (w : Int) {i : Nat} (h : i < 2) : ([.int .u8 (w / 256), .int .u8 (w % 256)] : AA)[0 + i]? = some (.int .u8 (aAa w i)) := by
 match i, h with
 | 0, _ => rfl
 | 1, _ => rfl
def aD9 {w : Int} (h : 0 ≤ w ∧ w < 65536) (i : Nat) : 0 ≤ aAa w i ∧ aAa w i < 256 := by unfold aAa; split <;> omega
def popN (A : aVg β) (x : Rn β) : Nat → Int × Rn β
 | 0 => (0, x)
 | i + 1 => ((popN A x i).1 + (pop1 A (popN A x i).2).1 * (if i = 0 then 1 else 256), (pop1 A (popN A x i).2).2)
end
section
variable {β : Type} (K : aVh β)
structure RunOk (n : Nat) (x : Rn β) : Prop where
 r : x.s.r.Ok
 m : K.ok n x.m
end
section
variable {β : Type} {K : aVh β} {x : Rn β} {n : Nat}
def RunOk.le {k : Nat} (h : RunOk K n x) (hk : k ≤ n) : RunOk K k x := ⟨h.r, K.oL h.m hk⟩
def RunOk.reg (h : RunOk K n x) {r : CR} (hr : r.Ok) : RunOk K n (x.reg r) := ⟨hr, h.m⟩
def RunOk.mem (h : RunOk K n x) {k : Nat} {m : β} (hm : K.ok k m) : RunOk K k (x.mem m) := ⟨h.r, hm⟩
def lI {w : Int} : 0 ≤ iT w ∧ iT w < 65536 := by unfold iT; omega
def nA {w : Int} : 0 ≤ lF w ∧ lF w < 65536 := by unfold lF; omega
def CR.Ok.sp_ {r : CR} (h : r.Ok) {w : Int} (hw : 0 ≤ w ∧ w < 65536) : ({ r with sp := w } : CR).Ok := ⟨h.a, h.f, h.b, h.c, h.d, h.e, h.h, h.l, hw, h.pc⟩
def CR.Ok.pc_ {r : CR} (h : r.Ok) {w : Int} (hw : 0 ≤ w ∧ w < 65536) : ({ r with pc := w } : CR).Ok := ⟨h.a, h.f, h.b, h.c, h.d, h.e, h.h, h.l, h.sp, hw⟩
def CR.Ok.f_ {r : CR} (h : r.Ok) {w : Int} (hw : 0 ≤ w ∧ w < 256) : ({ r with f := w } : CR).Ok := ⟨h.a, hw, h.b, h.c, h.d, h.e, h.h, h.l, h.sp, h.pc⟩
def CR.Ok.a_ {r : CR} (h : r.Ok) {w : Int} (hw : 0 ≤ w ∧ w < 256) : ({ r with a := w } : CR).Ok := ⟨hw, h.f, h.b, h.c, h.d, h.e, h.h, h.l, h.sp, h.pc⟩
def RunOk.gett (h : RunOk K (n + 1) x) (k : Int) : RunOk K n (gett K.toaVg k x).2 ∧ 0 ≤ (gett K.toaVg k x).1 ∧ (gett K.toaVg k x).1 < 256 := by
 unfold Go.Proofs.YtacejanlmhbddaaGreat.gett
 split
 ·have := K.oR h.m (fV h.r 2)
  exact ⟨h.mem this.1, this.2⟩
 ·exact ⟨h.le o_m, aKr h.r k⟩
def aMl (k : Int) : (gett K.toaVg k x).2.s = x.s := by
 unfold Go.Proofs.YtacejanlmhbddaaGreat.gett; split <;> rfl
def pH (k : Int) : (gett K.toaVg k x).2 = x.mem (gett K.toaVg k x).2.m := by
 unfold Go.Proofs.YtacejanlmhbddaaGreat.gett; split <;> rfl
def RunOk.gmem (h : RunOk K (n + 1) x) (k : Int) : RunOk K n (x.mem (Go.Proofs.YtacejanlmhbddaaGreat.gett K.toaVg k x).2.m) := by rw [← pH]; exact (h.gett k).1
def aDk {a v : Int} {i : Nat} (hi : i < 2) (ha : 0 ≤ a ∧ a < 256) (hz : i = 0 → a = 0) (hv : 0 ≤ v ∧ v < 256) : bor .u16 a (shl .u16 v (8 * (i : Int))) = a + v * (if i = 0 then 1 else 256) := by
 match i, hi with
 | 0, _ =>
  obtain rfl := hz rfl
  rw [if_pos rfl]
  have e : shl .u16 v (8 * ((0 : Nat) : Int)) = v := by unfold shl; exact (fT (by show 0 ≤ v * 2 ^ 0; omega) (by show v * 2 ^ 0 < 65536; omega)).trans (by show v * 2 ^ 0 = v; omega)
  rw [e]
  have := sJ (h := 0) (l := v) y_b hv
  simpa using this
 | 1, _ =>
  rw [if_neg y_b]
  have := aFw ha hv
  rw [show (8 * ((1 : Nat) : Int)) = 8 by rfl, this]
  omega
def RunOk.far (h : RunOk K n x) (k : Int) : RunOk K n (Go.Proofs.YtacejanlmhbddaaGreat.far k x).2 ∧ 0 ≤ (Go.Proofs.YtacejanlmhbddaaGreat.far k x).1 ∧ (Go.Proofs.YtacejanlmhbddaaGreat.far k x).1 < 65536 := by
 unfold Go.Proofs.YtacejanlmhbddaaGreat.far
 split
 ·exact ⟨h, fV h.r k⟩
 ·refine ⟨h.reg (h.r.setP 2 ?_), fV h.r 2⟩
  split
  ·exact lI
  ·exact nA
def RunOk.sett (h : RunOk K (n + 1) x) (k : Int) {v : Int} (hv : 0 ≤ v ∧ v < 256) : RunOk K n (sett K.toaVg k v x) := by
 unfold Go.Proofs.YtacejanlmhbddaaGreat.sett
 split
 ·exact h.mem (K.oW h.m (fV h.r 2) hv)
 ·exact (h.le o_m).reg (h.r.set k hv)
def RunOk.push1 (h : RunOk K (n + 1) x) {v : Int} (hv : 0 ≤ v ∧ v < 256) : RunOk K n (push1 K.toaVg v x) := ⟨h.r.sp_ nA, K.oW h.m nA hv⟩
def RunOk.push (h : RunOk K (n + 2) x) {w : Int} (hw : 0 ≤ w ∧ w < 65536) : RunOk K n (push K.toaVg w x) := (h.push1 (v := w / 256) o_m).push1 (v := w % 256) o_m
def RunOk.pop1 (h : RunOk K (n + 1) x) : RunOk K n (pop1 K.toaVg x).2 ∧ 0 ≤ (pop1 K.toaVg x).1 ∧ (pop1 K.toaVg x).1 < 256 := by
 have := K.oR h.m h.r.sp
 exact ⟨⟨h.r.sp_ lI, this.1⟩, this.2⟩
def RunOk.pop (h : RunOk K (n + 2) x) : RunOk K n (pop K.toaVg x).2 ∧ 0 ≤ (pop K.toaVg x).1 ∧ (pop K.toaVg x).1 < 65536 := by
 have h1 := h.pop1
 have h2 := h1.1.pop1
 refine ⟨h2.1, ?_⟩
 unfold Go.Proofs.YtacejanlmhbddaaGreat.pop
 dsimp only
 omega
def RunOk.pushN (h : RunOk K (n + 2) x) {w : Int} (hw : 0 ≤ w ∧ w < 65536) : ∀ i, i ≤ 2 → RunOk K (n + (2 - i)) (pushN K.toaVg w x i)
 | 0, _ => h
 | i + 1, hi => RunOk.push1 ((h.pushN hw i o_m).le o_m) (aD9 hw i)
def RunOk.popN (h : RunOk K (n + 2) x) : ∀ i, i ≤ 2 → RunOk K (n + (2 - i)) (popN K.toaVg x i).2
 | 0, _ => h
 | i + 1, hi => (RunOk.pop1 ((h.popN i o_m).le o_m)).1
def aGo : popN K.toaVg x 2 = pop K.toaVg x := by
 unfold Go.Proofs.YtacejanlmhbddaaGreat.pop
 simp only [Go.Proofs.YtacejanlmhbddaaGreat.popN]
 simp only [if_true, Int.zero_add, Int.mul_one]
 rw [if_neg y_b, Int.add_comm]
def aQF (h : RunOk K (n + 1) x) {i : Nat} (hi : i < 2) : 0 ≤ (popN K.toaVg x i).1 ∧ (popN K.toaVg x i).1 < 256 := by
 match i, hi with
 | 0, _ => exact ⟨gp 0, show (0 : Int) < 256 by decide⟩
 | 1, _ =>
  have := h.pop1.2
  simp only [Go.Proofs.YtacejanlmhbddaaGreat.popN, if_true, Int.zero_add, Int.mul_one]
  exact this
def RunOk.idles {k : Nat} (h : RunOk K (n + k) x) : ∀ i, i ≤ k → RunOk K (n + (k - i)) (idles K.toaVg i x)
 | 0, _ => h
 | i + 1, hi => (h.idles i o_m).mem (K.oI (K.oL (h.idles i o_m).m o_m))
def RunOk.idleK (k : Nat) (h : RunOk K (n + k) x) : RunOk K n (Go.Proofs.YtacejanlmhbddaaGreat.idles K.toaVg k x) := (h.idles k (av _)).le o_m
def RunOk.fetch1 (h : RunOk K (n + 1) x) : RunOk K n (fetch1 K.toaVg x).2 ∧ 0 ≤ (fetch1 K.toaVg x).1 ∧ (fetch1 K.toaVg x).1 < 256 := by
 have := K.oF h.m h.r.pc
 exact ⟨⟨h.r.pc_ lI, this.1⟩, this.2⟩
end
structure oM (o : Opr) : Prop where
 n : 0 ≤ o.n ∧ o.n < 65536
 x : 0 ≤ o.x ∧ o.x < 8
 small : o.kind = 34 ∨ o.kind = 35 → o.n < 256
def aUo (o : Opr) : Bool := decide (0 ≤ o.n ∧ o.n < 256 ∧ 0 ≤ o.x ∧ o.x < 8 ∧ ((o.kind = 34 ∨ o.kind = 35) → o.size = 2))
def aM4 : rJ.all aUo = true := by kernel_rfl
def aTx {a b c : Int} (ha : 0 ≤ a ∧ a < 256) (hb : 0 ≤ b ∧ b < 256) (hc : 0 ≤ c ∧ c < 256) : oM (dcd a b c) := by
 by_cases h : a = 203
 ·rw [aDC h]; unfold aAe
  split <;> exact ⟨⟨y_B, y_B⟩, ⟨y_B, y_B⟩, fun hk => by dsimp only at hk ⊢; omega⟩
 ·obtain ⟨m, o, hm, _, ho⟩ := aB5 ha.1 ha.2
  have hr : 0 ≤ o.n ∧ o.n < 256 ∧ 0 ≤ o.x ∧ o.x < 8 ∧ ((o.kind = 34 ∨ o.kind = 35) → o.size = 2) := ct (List.all_eq_true.1 aM4 o (bq ho))
  rw [sU hm h ho]
  by_cases h2 : o.size = 2
  ·rw [aFz h2]; exact ⟨⟨hb.1, y_B⟩, ⟨hr.2.2.1, hr.2.2.2.1⟩, fun _ => hb.2⟩
  ·by_cases h3 : o.size = 3
   ·rw [aGL h3]; exact ⟨⟨y_B, y_B⟩, ⟨hr.2.2.1, hr.2.2.2.1⟩, fun hk => absurd (hr.2.2.2.2 hk) h2⟩
   ·rw [aFc h2 h3]; exact ⟨⟨hr.1, y_y⟩, ⟨hr.2.2.1, hr.2.2.2.1⟩, fun hk => absurd (hr.2.2.2.2 hk) h2⟩
def St.notin {A B : aC} {w0 w : AI} {ms : AE} (h : St w0 ms (A ++ B) w) {x : Nat × Obj} (hx : x ∈ B) : x.1 ∉ A.map (·.1) := fun hm => by
 have := h.nodup
 rw [be, dd] at this
 exact this.2.2 _ hm _ (List.mem_map_of_mem hx) rfl
def aKL (z n h c : Bool) : aH .u8 (fl z n h c) 16 = fl false false false c := by cases z <;> cases n <;> cases h <;> cases c <;> decide
def aH6 {v n : Int} (hv : 0 ≤ v ∧ v < 256) (hn : 0 ≤ n ∧ n < 8) : hQ .u8 v (shl .u8 1 n) = qZ v n := by
 rcases (show n = 0 ∨ n = 1 ∨ n = 2 ∨ n = 3 ∨ n = 4 ∨ n = 5 ∨ n = 6 ∨ n = 7 by omega) with rfl | rfl | rfl | rfl | rfl | rfl | rfl | rfl
 all_goals revert v; intro v hv; refine aX (p := fun v => hQ .u8 v (shl .u8 1 _) = qZ v _) ?_ hv.1 hv.2; decide +kernel
def aQe {v n : Int} (hv : 0 ≤ v ∧ v < 256) (hn : 0 ≤ n ∧ n < 8) : bor .u8 v (shl .u8 1 n) = wO v n := by
 rcases (show n = 0 ∨ n = 1 ∨ n = 2 ∨ n = 3 ∨ n = 4 ∨ n = 5 ∨ n = 6 ∨ n = 7 by omega) with rfl | rfl | rfl | rfl | rfl | rfl | rfl | rfl
 all_goals revert v; intro v hv; refine aX (p := fun v => bor .u8 v (shl .u8 1 _) = wO v _) ?_ hv.1 hv.2; decide +kernel
def aBi {v n : Int} (hv : 0 ≤ v ∧ v < 256) (hn : 0 ≤ n ∧ n < 8) : (0 ≤ qZ v n ∧ qZ v n < 256) ∧ (0 ≤ wO v n ∧ wO v n < 256) := by
 rcases (show n = 0 ∨ n = 1 ∨ n = 2 ∨ n = 3 ∨ n = 4 ∨ n = 5 ∨ n = 6 ∨ n = 7 by omega) with rfl | rfl | rfl | rfl | rfl | rfl | rfl | rfl
 all_goals revert v; intro v hv; refine aX (p := fun v => (0 ≤ qZ v _ ∧ qZ v _ < 256) ∧ (0 ≤ wO v _ ∧ wO v _ < 256)) ?_ hv.1 hv.2; decide +kernel
def aQ7 {f : Int} (h : 0 ≤ f ∧ f < 256) : bor .u8 (bor .u8 (aH .u8 f 144) 64) 32 = fl (zF f) true true (cF f) := aX (p := fun f => bor .u8 (bor .u8 (aH .u8 f 144) 64) 32 = fl (zF f) true true (cF f)) y_z h.1 h.2
def aRy {f : Int} (h : 0 ≤ f ∧ f < 256) : bor .u8 (aH .u8 f 128) 16 = fl (zF f) false false true := aX (p := fun f => bor .u8 (aH .u8 f 128) 16 = fl (zF f) false false true) y_z h.1 h.2
def aQ9 {f : Int} (h : 0 ≤ f ∧ f < 256) : kM .u8 (aH .u8 f 144) 16 = fl (zF f) false false (!cF f) := aX (p := fun f => kM .u8 (aH .u8 f 144) 16 = fl (zF f) false false (!cF f)) y_z h.1 h.2
def aQ4 {a b : Int} {c : Bool} : 0 ≤ oK a b c ∧ oK a b c < 256 := by unfold oK; omega
def aQm {a b : Int} {c : Bool} : 0 ≤ oY a b c ∧ oY a b c < 256 := by unfold oY; omega
def aHD {a : Int} : 0 ≤ aAt a ∧ aAt a < 256 := by unfold aAt; omega
def aHN {a : Int} : 0 ≤ aAr a ∧ aAr a < 256 := by unfold aAr; omega
def aRz {a f : Int} : 0 ≤ tH a f ∧ tH a f < 256 := by unfold tH; split <;> omega
def aBI {k a f : Int} (h : 0 ≤ a ∧ a < 256) : 0 ≤ eC k a f ∧ eC k a f < 256 := by
 have := aCi (cF f)
 unfold eC; repeat' split
 all_goals omega
def aAo {a b : Int} : 0 ≤ sM a b ∧ sM a b < 65536 := by unfold sM; omega
def zZ {a b : Int} : 0 ≤ shR a b ∧ shR a b < 65536 := by unfold shR; omega
def aQu (n : Int) : IntKind.i8.wrap n = s8 (n % 256) := by
 show (if (true && decide (n % 256 ≥ 128)) = true then n % 256 - 256 else n % 256) = _
 unfold s8
 split
 ·rename_i h; simp at h; rw [if_pos o_m]
 ·rename_i h; simp at h; rw [if_neg o_m]
def aQa {a : Int} (h : 0 ≤ a ∧ a < 256) : kM .u8 255 a = 255 - a := aX (p := fun a => kM .u8 255 a = 255 - a) y_z h.1 h.2
def aBj {n : Int} (h : 0 ≤ n ∧ n < 256) : bor .u16 65280 n = 65280 + n := by
 have := sJ (h := 255) (l := n) y_b h
 simpa using this
section
variable {β : Type} (A : aVg β)
def wY {o : Opr} (h : isB o.kind = false) (x : Rn β) : fE A o x = x := by
 have := c7 h
 unfold fE; repeat rw [if_neg o_m]
def aBq {o : Opr} (h : isW o.kind = false) (x : Rn β) : iF A o x = x := by
 have := c7 h
 unfold iF; repeat rw [if_neg o_m]
end
section
variable {β : Type} {K : aVh β} {x : Rn β} {n : Nat}
def aJ3 {r : CR} (h : r.Ok) (k : Int) {b : Int} : (jE r k b).Ok := by
 have hf : ∀ z n h c, 0 ≤ fl z n h c ∧ fl z n h c < 256 := kU
 have b1 : 0 ≤ aH .u8 r.a b ∧ aH .u8 r.a b < 256 := by unfold aH; rw [fL]; omega
 have b2 : 0 ≤ kM .u8 r.a b ∧ kM .u8 r.a b < 256 := by unfold kM; rw [fL]; omega
 have b3 : 0 ≤ bor .u8 r.a b ∧ bor .u8 r.a b < 256 := by unfold bor; rw [fL]; omega
 unfold jE aAR rM rW
 repeat' split
 all_goals first | exact h | exact (h.a_ aQ4).f_ (hf _ _ _ _) | exact (h.a_ aQm).f_ (hf _ _ _ _) | exact h.f_ (hf _ _ _ _) | exact (h.a_ b1).f_ (hf _ _ _ _) | exact (h.a_ b2).f_ (hf _ _ _ _) | exact (h.a_ b3).f_ (hf _ _ _ _)
end
section
variable {β : Type} {K : aVh β} {x : Rn β} {n : Nat}
structure yW (K : aVh β) (n : Nat) (q : Nx β) : Prop where
 x : RunOk K n q.x
 len : q.b.length = 3
 by_ : aT q.b
 o : oM q.o
 sz : q.o.size ≤ 3
def yW.le {q : Nx β} {k : Nat} (h : yW K n q) (hk : k ≤ n) : yW K k q := ⟨h.x.le hk, h.len, h.by_, h.o, h.sz⟩
def yW.next {q : Nx β} (h : yW K (n + 1) q) (i : Nat) : yW K n (nx1 K.toaVg q i) := by
 have hf := h.x.fetch1
 have hb := lQ h.by_ i hf.2
 exact ⟨hf.1, by simp [nx1, h.len], hb, aTx (hb.get 0) (hb.get 1) (hb.get 2), (aFD (hb.get 0) (hb.get 1) (hb.get 2)).size.2⟩
def RunOk.nx (h : RunOk K (n + 3) x) : ∀ i, i ≤ 3 → yW K (n + (3 - i)) (nxN K.toaVg x i)
 | 0, _ => ⟨h, rfl, by intro y hy; simp [nx0, nxN] at hy; omega, show oM ⟨0, 0, 0, 1, 0⟩ from ⟨y_eP, y_eP, y_eP⟩, show (1 : Int) ≤ 3 by decide⟩
 | i + 1, hi => yW.next (by rw [show n + (3 - (i + 1)) + 1 = n + (3 - i) by omega]; exact h.nx i o_m) i
def aSS (A : aVg β) {i : Nat} (hi : i ≤ 3) (hp : ∀ j : Nat, j < i → (j : Int) < (nxN A x j).o.size) (he : ¬ (i : Int) < (nxN A x i).o.size) : nextT A x = ((nxN A x i).o, (nxN A x i).x) := by
 unfold nextT
 match i, hi with
 | 0, _ => exact absurd (show (0 : Int) < 1 by decide) he
 | 1, _ => rw [if_pos o_m]
 | 2, _ =>
  have := hp 1 o_m
  rw [if_neg o_m, if_pos o_m]
 | 3, _ =>
  have := hp 1 o_m
  have := hp 2 o_m
  rw [if_neg o_m, if_neg o_m]
def aLg (h : RunOk K (n + 3) x) : RunOk K n (nextT K.toaVg x).2 ∧ oM (nextT K.toaVg x).1 := by
 have h1 := h.nx 1 o_m
 have h2 := h.nx 2 o_m
 have h3 := h.nx 3 o_m
 unfold nextT
 split
 ·exact ⟨h1.x.le o_m, h1.o⟩
 ·split
  ·exact ⟨h2.x.le o_m, h2.o⟩
  ·exact ⟨h3.x.le o_m, h3.o⟩
def aOz {p : Int} (h : 0 ≤ p ∧ p < 32) : (aH .u8 p 16 == 0) = (p / 16 % 2 == 0) := aX (p := fun p => (aH .u8 p 16 == 0) = (p / 16 % 2 == 0)) y_z h.1 o_m
def aHU (p : Int) : 0 ≤ lH p ∧ lH p < 5 := by
 unfold lH; repeat' split
 all_goals decide
end
section
variable {β : Type} {K : aVh β} {x : Rn β} {n : Nat}
def aAn (h : RunOk K (n + 2) x) (k : Int) {g : Int → Int → Int × Int} (hg : ∀ a f, 0 ≤ a ∧ a < 256 → 0 ≤ f ∧ f < 256 → (0 ≤ (g a f).1 ∧ (g a f).1 < 256) ∧ (0 ≤ (g a f).2 ∧ (g a f).2 < 256)) : RunOk K n (change K.toaVg k g x) := by
 have h1 := h.gett k
 have h2 := hg _ _ h1.2 h1.1.r.f
 have h3 := RunOk.sett h1.1 k h2.1
 exact h3.reg (h3.r.f_ h2.2)
def jS {c : Prop} [Decidable c] {a b : Rn β} (h1 : RunOk K n a) (h2 : RunOk K n b) : RunOk K n (if c then a else b) := by split <;> assumption
def aQP (h : RunOk K (n + 2) x) {o : Opr} (ho : oM o) : RunOk K n (fE K.toaVg o x) := by
 have h0 := h.le (k := n) o_m
 have h1 := h.le (k := n + 1) o_m
 have gy := h1.gett o.y
 have gy2 := h.gett o.y
 have hn : 0 ≤ o.n % 256 ∧ o.n % 256 < 256 := by omega
 have hb := aBi gy.2 ho.x
 have fb := fun z n h c => kU z n h c
 unfold fE
 refine jS (RunOk.sett gy2.1 _ gy.2) ?_
 refine jS (h1.sett _ hn) ?_
 refine jS (gy.1.reg (aJ3 gy.1.r _)) ?_
 refine jS (h0.reg (aJ3 h.r _)) ?_
 refine jS (aAn h _ fun a f _ _ => ⟨aHD, fb _ _ _ _⟩) ?_
 refine jS (aAn h _ fun a f _ _ => ⟨aHN, fb _ _ _ _⟩) ?_
 refine jS (aAn h _ fun a f ha _ => ⟨aBI ha, fb _ _ _ _⟩) ?_
 refine jS (h0.reg ((h.r.a_ (aBI h.r.a)).f_ (fb _ _ _ _))) ?_
 refine jS (gy.1.reg (gy.1.r.f_ (fb _ _ _ _))) ?_
 refine jS (RunOk.sett gy2.1 _ hb.1) ?_
 refine jS (RunOk.sett gy2.1 _ hb.2) ?_
 refine jS (h0.reg ((h.r.a_ aRz).f_ (fb _ _ _ _))) ?_
 refine jS (h0.reg ((h.r.a_ (w := 255 - x.s.r.a) (by have := h.r.a; omega)).f_ (fb _ _ _ _))) ?_
 refine jS (h0.reg (h.r.f_ (fb _ _ _ _))) ?_
 refine jS (h0.reg (h.r.f_ (fb _ _ _ _))) ?_
 exact h0
def aPP (h : RunOk K (n + 3) x) {o : Opr} (ho : oM o) : RunOk K n (iF K.toaVg o x) := by
 have h0 := h.le (k := n) o_m
 have h1 := h.le (k := n + 1) o_m
 have h2 := h.le (k := n + 2) o_m
 have fb := fun z n h c => kU z n h c
 have hs := h.r.sp
 unfold iF
 repeat' split
 ·exact h0.reg (h.r.setP _ ho.n)
 ·exact RunOk.idleK 1 (h1.reg (h.r.setP _ lI))
 ·exact RunOk.idleK 1 (h1.reg (h.r.setP _ nA))
 ·exact RunOk.idleK 1 (h1.reg ((h.r.f_ (fb _ _ _ _)).setP _ aAo))
 ·exact RunOk.idleK 2 (h2.reg ((h.r.sp_ zZ).f_ (fb _ _ _ _)))
 ·exact RunOk.idleK 1 (h1.reg ((h.r.f_ (fb _ _ _ _)).setP _ zZ))
 ·exact RunOk.idleK 1 (h1.reg (h.r.sp_ (fV h.r _)))
 ·exact RunOk.push (h.idleK 1) (fV (h.idleK 1).r _)
 ·exact h2.pop.1.reg (h2.pop.1.r.setP _ h2.pop.2)
 ·exact h0.mem (K.oW (K.oW h2.m ho.n o_m) lI o_m)
 ·exact h0
def aNh (h : RunOk K n x) {o : Opr} (ho : oM o) : RunOk K n (place o x).2 ∧ 0 ≤ (place o x).1 ∧ (place o x).1 < 65536 := by
 have hc := h.r.c
 unfold place
 repeat' split
 ·exact h.far _
 ·exact ⟨h, y_B, y_B⟩
 ·exact ⟨h, y_B, y_B⟩
 ·exact ⟨h, ho.n⟩
def aQX (h : RunOk K (n + 1) x) {o : Opr} (ho : oM o) : RunOk K n (kG K.toaVg o x) := by
 have hp := aNh h ho
 unfold kG
 dsimp only
 split
 ·have := K.oR hp.1.m hp.2
  exact ⟨hp.1.r.a_ this.2, this.1⟩
 ·exact hp.1.mem (K.oW hp.1.m hp.2 hp.1.r.a)
def aP0 (h : RunOk K (n + 4) x) {o : Opr} (ho : oM o) : RunOk K n (effJ K.toaVg o x) := by
 have hx : RunOk K (n + 3) (if o.kind = 26 ∧ o.x ≠ 4 then idles K.toaVg 1 x else x) := by
  split
  ·exact h.idleK 1
  ·exact h.le o_m
 unfold effJ
 dsimp only
 generalize (if o.kind = 26 ∧ o.x ≠ 4 then idles K.toaVg 1 x else x) = y at hx ⊢
 have h1 := hx.idleK 1
 have hg : ∀ {k : Nat} {z : Rn β} {w : Int}, RunOk K k z → 0 ≤ w ∧ w < 65536 → RunOk K k (goto w z) := fun hz hw => hz.reg (hz.r.pc_ hw)
 repeat' split
 ·exact hx.le o_m
 ·exact hg (h1.le o_m) o_m
 ·exact hg (h1.le o_m) ho.n
 ·exact hg (RunOk.push h1 hx.r.pc) ho.n
 ·have hq : RunOk K (n + 1 + 2) ⟨{ y.s with ime := true }, y.m⟩ := ⟨hx.r, hx.m⟩
  exact RunOk.idleK 1 (hg hq.pop.1 hq.pop.2)
 ·have hq : RunOk K (n + 1 + 2) y := hx
  exact RunOk.idleK 1 (hg hq.pop.1 hq.pop.2)
 ·exact hg (hx.le o_m) (fV hx.r 2)
 ·exact hx.le o_m
def aPO (h : RunOk K (n + 4) x) {o : Opr} (ho : oM o) {p : Int} (hp : 0 ≤ p ∧ p < 65536) : RunOk K n (ordT K.toaVg o p x).2 := by
 have h0 := h.le (k := n) o_m
 unfold ordT
 repeat' split
 ·exact ⟨h.r, h0.m⟩
 ·exact ⟨h.r, h0.m⟩
 ·exact h0.reg (h.r.pc_ hp)
 ·exact ⟨h.r, h0.m⟩
 ·exact ⟨h.r, h0.m⟩
 ·exact aQP (h.le o_m) ho
 ·exact aPP (h.le o_m) ho
 ·exact aQX (h.le o_m) ho
 ·exact aP0 h ho
def aM7 (h : RunOk K (n + 5) x) (p : Int) : RunOk K n (vW K.toaVg p x) := by
 have h1 := RunOk.push (n := n + 1) (h.idleK 2) h.r.pc
 have hl := aHU p
 have h2 := RunOk.idleK (n := n) 1 (h1.mem (K.oA h1.m hl))
 exact ⟨h2.r.pc_ o_m, h2.m⟩
def aDu (h : RunOk K (n + 7) x) : RunOk K n (dJ K.toaVg x).2 := by
 have h0 := h.le (k := n) o_m
 have h1 := h.le (k := n + 1) o_m
 unfold dJ
 dsimp only
 repeat' split
 ·exact ⟨h.r, K.oI h1.m⟩
 ·exact h0.mem (K.oI h1.m)
 ·exact aM7 (n := n) (x := ⟨{ x.s with halt := false }, x.m⟩) ⟨h.r, K.oL h.m o_m⟩ _
 all_goals
  have hq := aLg (n := n + 4) (K := K) (x := ⟨{ x.s with halt := false, soon := false }, x.m⟩) ⟨h.r, h.m⟩
  have ho := aPO hq.1 hq.2 h.r.pc
  first | exact ho | exact ⟨ho.r, ho.m⟩
end
structure Ac where
 kind : Int
 addr : Int
 val : Int
deriving DecidableEq
def cAc (a : Ac) : AA := [.int .i64 a.kind, .int .u16 a.addr, .int .u8 a.val]
structure Hd where
 title : List UInt8
 kind : Int
 clock : Bool
 battery : Bool
 banks : Int
 ram : Int
 whole : Bool
deriving DecidableEq
def cHd (h : Hd) : AA := [.string (bs h.title), .int .i64 h.kind, .bool h.clock, .bool h.battery, .int .i64 h.banks, .int .i64 h.ram, .bool h.whole]
structure Mm where
 cpu : CS
 bk : Bk
 ck : Ck
 tm : Tm
 pd : Pd
 pt : Pt
 cp : Cp
 bd : Bd
 flags : Int
 lets : Int
 steps : Int
 cycles : Int
 hd : Hd
 u : PU
 rom : AB
 ram : AB
 work : AB
 high : AB
 acc : List Ac
def pictured (a : Int) : Bool := decide ((32768 ≤ a ∧ a < 40960) ∨ (65024 ≤ a ∧ a < 65184) ∨ (65344 ≤ a ∧ a < 65356 ∧ a ≠ 65350))
def askM (k : Int) (is : Bool) (m : Mm) : Mm := if is = true then { m with flags := bor .u8 m.flags k } else m
def qI (a : Int) (m : Mm) : Int := match clockB m.bk with
 | some p => uL p m.ck
 | none => match atB_ a m.bk with
  | none => 255
  | some n => if m.hd.kind = 2 then bor .u8 (m.ram.getD n.toNat 0) 240 else m.ram.getD n.toNat 0
def deviceM (a : Int) (m : Mm) : Int :=
 if a = 65280 then aCx m.pd else if a < 65283 then readPt (a - 65281) m.pt else if 65284 ≤ a ∧ a < 65288 then readTm (a - 65284) m.tm
 else if a = 65295 then bor .u8 m.flags 224 else if 65296 ≤ a ∧ a < 65344 then readB (a - 65296) m.bd else if a = 65350 then m.cp.page
 else if a = 65535 then m.lets else if 65408 ≤ a then m.high.getD (a - 65408).toNat 0 else 255
def lL (a : Int) (m : Mm) : Int :=
 if a < 32768 then m.rom.getD (aBC a m.bk).toNat 0 else if pictured a = true then lC m.u a else if a < 49152 then qI a m
 else if a < 65024 then m.work.getD (a % 8192).toNat 0 else if a < 65280 then 255 else deviceM a m
def iN (a x : Int) (m : Mm) : Mm := match clockB m.bk with
 | some p => { m with ck := writeCk p x m.ck }
 | none => match atB_ a m.bk with
  | none => m
  | some n => { m with ram := m.ram.set n.toNat x }
def setDeviceM (a x : Int) (m : Mm) : Mm :=
 if a = 65280 then askM 16 (nP m.pd (lN x m.pd)) { m with pd := lN x m.pd } else if a < 65283 then { m with pt := writePt (a - 65281) x m.pt }
 else if 65284 ≤ a ∧ a < 65288 then { m with tm := writeTm (a - 65284) x m.tm } else if a = 65295 then { m with flags := aH .u8 x 31 }
 else if 65296 ≤ a ∧ a < 65344 then { m with bd := writeBd (a - 65296) x m.bd } else if a = 65350 then { m with cp := tQ x }
 else if a = 65535 then { m with lets := x } else if 65408 ≤ a then { m with high := m.high.set (a - 65408).toNat x } else m
def nI (is : Bool) (m : Mm) : Mm := if is = true then { m with ck := uD m.ck } else m
def pokeM (a x : Int) (m : Mm) : Mm :=
 if a < 32768 then nI (latchB a x m.bk) { m with bk := writeB a x m.bk } else if pictured a = true then askM 2 (aH .u8 (jQ m.u a x) 2 != 0) { m with u := fO m.u a x }
 else if a < 49152 then iN a x m else if a < 65024 then { m with work := m.work.set (a % 8192).toNat x } else if a < 65280 then m else setDeviceM a x m
def cyc1 (m : Mm) : Mm := askM 4 m.tm.over { m with cycles := (m.cycles + 1) % 18446744073709551616, tm := mT m.tm }
def cyc2 (m : Mm) : Mm := askM 8 (nY m.pt) { m with pt := tickPt m.pt }
def cyc3 (m : Mm) : Mm := if 0 < m.cp.left then { m with cp := tickCp m.cp, u := kT m.u (zT m.cp) (lL (sC m.cp) { m with cp := tickCp m.cp }) } else m
def cyc4 (m : Mm) : Mm := { m with bd := tickB m.bd }
def cyc5 (m : Mm) : Mm := askM 2 (aH .u8 (tickV m.u) 2 != 0) (askM 1 (aH .u8 (tickV m.u) 1 != 0) { m with u := tickU m.u })
def nJ (m : Mm) : Mm := if m.hd.clock = true then { m with ck := tickCk m.ck } else m
def cycleM (m : Mm) : Mm := nJ (cyc5 (cyc4 (cyc3 (cyc2 (cyc1 m)))))
def sD (k a x : Int) (m : Mm) : Mm := { m with acc := m.acc ++ [⟨k, a, x⟩] }
def seenM (a : Int) (m : Mm) : Int := if letsCp m.cp a = false then 255 else if pictured a = true then qV m.u a else lL a m
def dY : aVg Mm where
 fetch a m := (seenM a (cycleM m), sD 3 a (seenM a (cycleM m)) (cycleM m))
 read a m := (seenM a (cycleM m), sD 1 a (seenM a (cycleM m)) (cycleM m))
 write a x m := sD 2 a x (if letsCp (cycleM m).cp a = true then pokeM a x (cycleM m) else cycleM m)
 idle m := sD 0 0 0 (cycleM m)
 pend m := aH .u8 (aH .u8 m.flags m.lets) 31
 ack n m := { m with flags := qZ m.flags n }
def kA (x : Int) (m : Mm) : Mm := askM 16 (nP m.pd (hY x m.pd)) { m with pd := hY x m.pd }
def bT (plan : List Chg) (m : Mm) : Mm := { kA (eS plan m.steps) m with acc := [] }
def cE (plan : List Chg) (m : Mm) : Dd × Mm :=
 let q := dJ dY (⟨m.cpu, bT plan m⟩ : Rn Mm)
 (q.1, { q.2.m with cpu := q.2.s, steps := (q.2.m.steps + 1) % 18446744073709551616 })
structure Mm.Wf (m : Mm) : Prop where
 bk : m.bk.Ok
 ck : m.ck.Ok
 tm : m.tm.Ok
 pd : m.pd.Ok
 pt : m.pt.Ok
 cp : m.cp.Ok
 bd : m.bd.Wf
 flags : 0 ≤ m.flags ∧ m.flags < 256
 lets : 0 ≤ m.lets ∧ m.lets < 256
 steps : 0 ≤ m.steps ∧ m.steps < 18446744073709551616
 cycles : 0 ≤ m.cycles ∧ m.cycles < 18446744073709551616
 u : m.u.Ok
 banks : 0 < m.bk.banks
 lRom : (m.rom.length : Int) = 16384 * m.bk.banks
 bRom : aT m.rom
 lRam : (m.ram.length : Int) = m.bk.ram
 bRam : aT m.ram
 lWork : m.work.length = 8192
 bWork : aT m.work
 lHigh : m.high.length = 127
 bHigh : aT m.high
structure gN (n : Nat) (m : Mm) : Prop where
 wf : m.Wf
 room : m.acc.length + n ≤ 1000000
 accs : ∀ e ∈ m.acc, (0 ≤ e.addr ∧ e.addr < 65536) ∧ 0 ≤ e.val ∧ e.val < 256
section
variable {m : Mm}
def Mm.Wf.flags_ (h : m.Wf) {x : Int} (hx : 0 ≤ x ∧ x < 256) : ({ m with flags := x } : Mm).Wf := ⟨h.bk, h.ck, h.tm, h.pd, h.pt, h.cp, h.bd, hx, h.lets, h.steps, h.cycles, h.u, h.banks, h.lRom, h.bRom, h.lRam, h.bRam, h.lWork, h.bWork, h.lHigh, h.bHigh⟩
def Mm.Wf.lets_ (h : m.Wf) {x : Int} (hx : 0 ≤ x ∧ x < 256) : ({ m with lets := x } : Mm).Wf := ⟨h.bk, h.ck, h.tm, h.pd, h.pt, h.cp, h.bd, h.flags, hx, h.steps, h.cycles, h.u, h.banks, h.lRom, h.bRom, h.lRam, h.bRam, h.lWork, h.bWork, h.lHigh, h.bHigh⟩
def Mm.Wf.tm_ (h : m.Wf) {x : Tm} (hx : x.Ok) : ({ m with tm := x } : Mm).Wf := ⟨h.bk, h.ck, hx, h.pd, h.pt, h.cp, h.bd, h.flags, h.lets, h.steps, h.cycles, h.u, h.banks, h.lRom, h.bRom, h.lRam, h.bRam, h.lWork, h.bWork, h.lHigh, h.bHigh⟩
def Mm.Wf.ck_ (h : m.Wf) {x : Ck} (hx : x.Ok) : ({ m with ck := x } : Mm).Wf := ⟨h.bk, hx, h.tm, h.pd, h.pt, h.cp, h.bd, h.flags, h.lets, h.steps, h.cycles, h.u, h.banks, h.lRom, h.bRom, h.lRam, h.bRam, h.lWork, h.bWork, h.lHigh, h.bHigh⟩
def Mm.Wf.pd_ (h : m.Wf) {x : Pd} (hx : x.Ok) : ({ m with pd := x } : Mm).Wf := ⟨h.bk, h.ck, h.tm, hx, h.pt, h.cp, h.bd, h.flags, h.lets, h.steps, h.cycles, h.u, h.banks, h.lRom, h.bRom, h.lRam, h.bRam, h.lWork, h.bWork, h.lHigh, h.bHigh⟩
def Mm.Wf.pt_ (h : m.Wf) {x : Pt} (hx : x.Ok) : ({ m with pt := x } : Mm).Wf := ⟨h.bk, h.ck, h.tm, h.pd, hx, h.cp, h.bd, h.flags, h.lets, h.steps, h.cycles, h.u, h.banks, h.lRom, h.bRom, h.lRam, h.bRam, h.lWork, h.bWork, h.lHigh, h.bHigh⟩
def Mm.Wf.cp_ (h : m.Wf) {x : Cp} (hx : x.Ok) : ({ m with cp := x } : Mm).Wf := ⟨h.bk, h.ck, h.tm, h.pd, h.pt, hx, h.bd, h.flags, h.lets, h.steps, h.cycles, h.u, h.banks, h.lRom, h.bRom, h.lRam, h.bRam, h.lWork, h.bWork, h.lHigh, h.bHigh⟩
def Mm.Wf.bd_ (h : m.Wf) {x : Bd} (hx : x.Wf) : ({ m with bd := x } : Mm).Wf := ⟨h.bk, h.ck, h.tm, h.pd, h.pt, h.cp, hx, h.flags, h.lets, h.steps, h.cycles, h.u, h.banks, h.lRom, h.bRom, h.lRam, h.bRam, h.lWork, h.bWork, h.lHigh, h.bHigh⟩
def Mm.Wf.u_ (h : m.Wf) {x : PU} (hx : x.Ok) : ({ m with u := x } : Mm).Wf := ⟨h.bk, h.ck, h.tm, h.pd, h.pt, h.cp, h.bd, h.flags, h.lets, h.steps, h.cycles, hx, h.banks, h.lRom, h.bRom, h.lRam, h.bRam, h.lWork, h.bWork, h.lHigh, h.bHigh⟩
def Mm.Wf.cycles_ (h : m.Wf) {x : Int} (hx : 0 ≤ x ∧ x < 18446744073709551616) : ({ m with cycles := x } : Mm).Wf := ⟨h.bk, h.ck, h.tm, h.pd, h.pt, h.cp, h.bd, h.flags, h.lets, h.steps, hx, h.u, h.banks, h.lRom, h.bRom, h.lRam, h.bRam, h.lWork, h.bWork, h.lHigh, h.bHigh⟩
def Mm.Wf.steps_ (h : m.Wf) {x : Int} (hx : 0 ≤ x ∧ x < 18446744073709551616) (s : CS) : ({ m with cpu := s, steps := x } : Mm).Wf := ⟨h.bk, h.ck, h.tm, h.pd, h.pt, h.cp, h.bd, h.flags, h.lets, hx, h.cycles, h.u, h.banks, h.lRom, h.bRom, h.lRam, h.bRam, h.lWork, h.bWork, h.lHigh, h.bHigh⟩
def Mm.Wf.acc_ (h : m.Wf) (x : List Ac) : ({ m with acc := x } : Mm).Wf := ⟨h.bk, h.ck, h.tm, h.pd, h.pt, h.cp, h.bd, h.flags, h.lets, h.steps, h.cycles, h.u, h.banks, h.lRom, h.bRom, h.lRam, h.bRam, h.lWork, h.bWork, h.lHigh, h.bHigh⟩
def Mm.Wf.ram_ (h : m.Wf) (n : Nat) {x : Int} (hx : 0 ≤ x ∧ x < 256) : ({ m with ram := m.ram.set n x } : Mm).Wf := ⟨h.bk, h.ck, h.tm, h.pd, h.pt, h.cp, h.bd, h.flags, h.lets, h.steps, h.cycles, h.u, h.banks, h.lRom, h.bRom, by show ((m.ram.set n x).length : Int) = _; rw [ca]; exact h.lRam, lQ h.bRam n hx, h.lWork, h.bWork, h.lHigh, h.bHigh⟩
def Mm.Wf.work_ (h : m.Wf) (n : Nat) {x : Int} (hx : 0 ≤ x ∧ x < 256) : ({ m with work := m.work.set n x } : Mm).Wf := ⟨h.bk, h.ck, h.tm, h.pd, h.pt, h.cp, h.bd, h.flags, h.lets, h.steps, h.cycles, h.u, h.banks, h.lRom, h.bRom, h.lRam, h.bRam, by show (m.work.set n x).length = _; rw [ca]; exact h.lWork, lQ h.bWork n hx, h.lHigh, h.bHigh⟩
def Mm.Wf.high_ (h : m.Wf) (n : Nat) {x : Int} (hx : 0 ≤ x ∧ x < 256) : ({ m with high := m.high.set n x } : Mm).Wf := ⟨h.bk, h.ck, h.tm, h.pd, h.pt, h.cp, h.bd, h.flags, h.lets, h.steps, h.cycles, h.u, h.banks, h.lRom, h.bRom, h.lRam, h.bRam, h.lWork, h.bWork, by show (m.high.set n x).length = _; rw [ca]; exact h.lHigh, lQ h.bHigh n hx⟩
def Mm.Wf.bk_ (h : m.Wf) (a : Int) {x : Int} (hx : 0 ≤ x ∧ x < 256) : ({ m with bk := writeB a x m.bk } : Mm).Wf := by
 obtain ⟨h1, h2, h3⟩ := aBz a x m.bk
 exact ⟨h.bk.write a hx, h.ck, h.tm, h.pd, h.pt, h.cp, h.bd, h.flags, h.lets, h.steps, h.cycles, h.u, by show 0 < (writeB a x m.bk).banks; rw [h2]; exact h.banks, by show _ = 16384 * (writeB a x m.bk).banks; rw [h2]; exact h.lRom, h.bRom, by show _ = (writeB a x m.bk).ram; rw [h3]; exact h.lRam, h.bRam, h.lWork, h.bWork, h.lHigh, h.bHigh⟩
def Mm.Wf.ask (h : m.Wf) (k : Int) (is : Bool) : (askM k is m).Wf := by unfold askM; split; exact h.flags_ (rY _ _); exact h
def Mm.Wf.latch (h : m.Wf) (is : Bool) : (nI is m).Wf := by unfold nI; split; exact h.ck_ h.ck.hold; exact h
def Mm.Wf.save (h : m.Wf) (a : Int) {x : Int} (hx : 0 ≤ x ∧ x < 256) : (iN a x m).Wf := by
 unfold iN
 split
 ·exact h.ck_ (h.ck.write _ hx)
 split
 ·exact h
 ·exact h.ram_ _ hx
def Mm.Wf.setDevice (h : m.Wf) (a : Int) {x : Int} (hx : 0 ≤ x ∧ x < 256) : (setDeviceM a x m).Wf := by
 unfold setDeviceM
 split
 ·exact (h.pd_ (h.pd.sel_ x)).ask _ _
 split
 ·exact h.pt_ (h.pt.write _ hx)
 split
 ·exact h.tm_ (h.tm.write _ hx)
 split
 ·exact h.flags_ (aBD _ _)
 split
 ·exact h.bd_ (h.bd.write _ hx)
 split
 ·exact h.cp_ ⟨hx, show (0 : Int) ≤ 160 ∧ (160 : Int) < 65536 by decide⟩
 split
 ·exact h.lets_ hx
 split
 ·exact h.high_ _ hx
 ·exact h
def Mm.Wf.poke (h : m.Wf) (a : Int) {x : Int} (hx : 0 ≤ x ∧ x < 256) : (pokeM a x m).Wf := by
 unfold pokeM
 split
 ·exact (h.bk_ a hx).latch _
 split
 ·exact (h.u_ (h.u.write hx)).ask _ _
 split
 ·exact h.save a hx
 split
 ·exact h.work_ _ hx
 split
 ·exact h
 ·exact h.setDevice a hx
def aK3 (h : m.Wf) (a : Int) : 0 ≤ qI a m ∧ qI a m < 256 := by
 unfold qI
 split
 ·exact aMD h.ck _
 split
 ·decide
 split
 ·exact rY _ _
 ·exact h.bRam.get _
def aJO (h : m.Wf) (a : Int) : 0 ≤ deviceM a m ∧ deviceM a m < 256 := by
 unfold deviceM
 split; exact aKD _
 split; exact aL0 h.pt _
 split; exact aMA h.tm _
 split; exact rY _ _
 split; exact aO4 h.bd _
 split; exact h.cp.page
 split; exact h.lets
 split; exact h.bHigh.get _
 decide
def aOG (u : PU) : 0 ≤ yF u ∧ yF u < 256 := rY _ _
def aFn {u : PU} (h : u.Wf) (a : Int) : 0 ≤ lC u a ∧ lC u a < 256 := by
 unfold lC
 repeat' split
 all_goals first | exact h.bV.get _ | exact h.bO.get _ | exact h.bR.get _ | exact rY _ _ | exact aOG u | omega
def aNR {u : PU} (h : u.Wf) (a : Int) : 0 ≤ qV u a ∧ qV u a < 256 := by
 unfold qV
 repeat' split
 all_goals first | exact aFn h a | omega
def zH (h : m.Wf) (a : Int) : 0 ≤ lL a m ∧ lL a m < 256 := by
 unfold lL
 split; exact h.bRom.get _
 split; exact aFn h.u.wf _
 split; exact aK3 h _
 split; exact h.bWork.get _
 split; decide
 exact aJO h _
def uF (h : m.Wf) (a : Int) : 0 ≤ seenM a m ∧ seenM a m < 256 := by
 unfold seenM
 split; decide
 split; exact aNR h.u.wf _
 exact zH h _
def Mm.Wf.cyc1W (h : m.Wf) : (cyc1 m).Wf := Mm.Wf.ask (m := { m with cycles := (m.cycles + 1) % 18446744073709551616, tm := mT m.tm }) ((h.cycles_ (x := (m.cycles + 1) % 18446744073709551616) o_m).tm_ h.tm.tick) _ _
def Mm.Wf.cyc2W (h : m.Wf) : (cyc2 m).Wf := (h.pt_ h.pt.tick).ask _ _
def Mm.Wf.cyc3W (h : m.Wf) : (cyc3 m).Wf := by
 unfold cyc3
 split
 ·exact Mm.Wf.u_ (m := { m with cp := tickCp m.cp }) (h.cp_ h.cp.tick) (h.u.sprite _ (zH (h.cp_ h.cp.tick) _))
 ·exact h
def Mm.Wf.cyc4W (h : m.Wf) : (cyc4 m).Wf := h.bd_ h.bd.tick
def Mm.Wf.cyc5W (h : m.Wf) : (cyc5 m).Wf := ((h.u_ h.u.tick).ask _ _).ask _ _
def Mm.Wf.cyc6W (h : m.Wf) : (nJ m).Wf := by unfold nJ; split; exact h.ck_ h.ck.tick; exact h
def Mm.Wf.cycle (h : m.Wf) : (cycleM m).Wf := h.cyc1W.cyc2W.cyc3W.cyc4W.cyc5W.cyc6W
def aB2 (k : Int) (is : Bool) (m : Mm) : (askM k is m).acc = m.acc := by unfold askM; split <;> rfl
def cycleM_acc (m : Mm) : (cycleM m).acc = m.acc := by
 unfold cycleM nJ cyc5 cyc4 cyc3 cyc2 cyc1
 repeat' split
 all_goals simp only [aB2]
def aIg (is : Bool) (m : Mm) : (nI is m).acc = m.acc := by unfold nI; split <;> rfl
def aKf (a x : Int) (m : Mm) : (iN a x m).acc = m.acc := by
 unfold iN
 split
 ·rfl
 split <;> rfl
def aDi (a x : Int) (m : Mm) : (setDeviceM a x m).acc = m.acc := by
 unfold setDeviceM
 split
 ·exact aB2 _ _ _
 repeat' split
 all_goals rfl
def vE (a x : Int) (m : Mm) : (pokeM a x m).acc = m.acc := by
 unfold pokeM
 split
 ·exact aIg _ _
 split
 ·exact aB2 _ _ _
 split
 ·exact aKf _ _ _
 split
 ·rfl
 split
 ·rfl
 ·exact aDi _ _ _
def gN.cycle {n : Nat} (h : gN n m) : gN n (cycleM m) := ⟨h.wf.cycle, by rw [cycleM_acc]; exact h.room, by rw [cycleM_acc]; exact h.accs⟩
def gN.note {n : Nat} (h : gN (n + 1) m) (k : Int) {a x : Int} (ha : 0 ≤ a ∧ a < 65536) (hx : 0 ≤ x ∧ x < 256) : gN n (sD k a x m) := ⟨h.wf.acc_ _, by have := h.room; simp only [sD, La_, ar]; omega, fun e he => by
 rcases List.mem_append.1 he with he | he
 ·exact h.accs e he
 ·rw [List.mem_singleton.1 he]; exact ⟨ha, hx⟩⟩
def gN.poke {n : Nat} (h : gN n m) (a : Int) {x : Int} (hx : 0 ≤ x ∧ x < 256) : gN n (pokeM a x m) := ⟨h.wf.poke a hx, by rw [vE]; exact h.room, by rw [vE]; exact h.accs⟩
def gN.le {n k : Nat} (h : gN n m) (hk : k ≤ n) : gN k m := ⟨h.wf, by have := h.room; omega, h.accs⟩
def gN.get {n : Nat} (h : gN (n + 1) m) (k : Int) {a : Int} (ha : 0 ≤ a ∧ a < 65536) : gN n (sD k a (seenM a (cycleM m)) (cycleM m)) := h.cycle.note k ha (uF h.wf.cycle a)
def gN.write {n : Nat} (h : gN (n + 1) m) {a x : Int} (ha : 0 ≤ a ∧ a < 65536) (hx : 0 ≤ x ∧ x < 256) : gN n (dY.write a x m) := by
 show gN n (sD 2 a x (if letsCp (cycleM m).cp a = true then pokeM a x (cycleM m) else cycleM m))
 split
 ·exact (h.cycle.poke a hx).note 2 ha hx
 ·exact h.cycle.note 2 ha hx
def gN.ack {n : Nat} (h : gN n m) {k : Int} (hk : 0 ≤ k ∧ k < 5) : gN n (dY.ack k m) := ⟨h.wf.flags_ (aBi h.wf.flags ⟨hk.1, y_y⟩).1, h.room, h.accs⟩
def aGc (m : Mm) : 0 ≤ dY.pend m ∧ dY.pend m < 32 := by
 have key : ∀ y : Int, 0 ≤ y ∧ y < 256 → (0 ≤ aH .u8 y 31 ∧ aH .u8 y 31 < 32) := fun y hy => aX (p := fun y => 0 ≤ aH .u8 y 31 ∧ aH .u8 y 31 < 32) y_z hy.1 hy.2
 exact key _ (aBD _ _)
def Mm.Wf.press (h : m.Wf) {x : Int} (hx : 0 ≤ x ∧ x < 256) : (kA x m).Wf := (h.pd_ (h.pd.press hx)).ask _ _
def Mm.Wf.start (h : m.Wf) {l : List Chg} (hl : ∀ c ∈ l, kN c) : (bT l m).Wf := (h.press (aEf hl _)).acc_ []
end
def aDN (n : Int) : ((BitVec.ofInt 64 n).toNat : Int) = n % 18446744073709551616 := by
 rw [ez]
 have : (0 : Int) ≤ n % 18446744073709551616 := et _ y_b
 exact dh this
def aSB (a : Nat) (h : a < 18446744073709551616) : a &&& 18446744073709551360 = a / 256 * 256 := by
 have h1 : (18446744073709551360 : Nat) = (2 ^ 56 - 1) <<< 8 := by decide
 have h2 : a / 256 * 256 = (a >>> 8) <<< 8 := by rw [jo, jd]
 rw [h1, h2]
 refine iw fun i => ?_
 rw [jx, ik, ik, Nat.testBit_two_pow_sub_one, Nat.testBit_shiftRight]
 by_cases h8 : 8 ≤ i
 ·have h9 : 8 + (i - 8) = i := by omega
  rw [h9]
  by_cases h64 : i - 8 < 56
  ·simp [h8, h64]
  ·have : a.testBit i = false := Nat.testBit_lt_two_pow (dq h (gv (by decide : 18446744073709551616 ≤ 2 ^ 64) (fq y_b o_m)))
   simp [this]
 ·simp [h8]
def aGt {n : Int} (h1 : -9223372036854775808 ≤ n) (h2 : n ≤ 9223372036854775807) : hQ .i64 n 255 = n / 256 * 256 := by
 have ha := aDN n
 have hb : (BitVec.ofInt 64 n &&& ~~~BitVec.ofInt 64 255).toNat = (BitVec.ofInt 64 n).toNat / 256 * 256 := by
  rw [gk]
  exact aSB _ (BitVec.isLt _)
 show IntKind.i64.wrap ((BitVec.ofInt 64 n &&& ~~~BitVec.ofInt 64 255).toNat : Int) = _
 rw [hb, aBd]
 omega
def aOZ (q x : Nat) (hx : x < 256) : (256 * q) ||| x = 256 * q + x := (fe (i := 8) hx q).symm
def aBO {A x : Int} (hA : A % 256 = 0) (h1 : -9223372036854775808 ≤ A) (h2 : A ≤ 9223372036854775807) (hx : 0 ≤ x ∧ x < 256) : bor .i64 A x = A + x := by
 have ha := aDN A
 have hxx := aDN x
 have hb : (BitVec.ofInt 64 A ||| BitVec.ofInt 64 x).toNat = (BitVec.ofInt 64 A).toNat + (BitVec.ofInt 64 x).toNat := by
  rw [BitVec.toNat_or]
  have hq : (BitVec.ofInt 64 A).toNat = 256 * ((BitVec.ofInt 64 A).toNat / 256) := by omega
  rw [hq]
  exact aOZ _ _ o_m
 show IntKind.i64.wrap ((BitVec.ofInt 64 A ||| BitVec.ofInt 64 x).toNat : Int) = _
 rw [hb, aBd]
 omega
def vY {A x : Int} (hA : A % 256 = 0) (h1 : -9223372036854775808 ≤ A) (h2 : A ≤ 9223372036854775807) (hx : 0 ≤ x ∧ x < 256) : bor .i64 x A = x + A := by
 have := aBO hA h1 h2 hx
 unfold bor at this ⊢
 rw [BitVec.or_comm, this]; omega
def aFl (n : Int) : aH .i64 n 255 = n % 256 := aGM n 8 y_b
def atT (o : Option Int) : AH := match o with
 | none => .tuple #[.int .i64 0, .bool false]
 | some n => .tuple #[.int .i64 n, .bool true]
def aOD (c : Ck) (y : Int) : secCk { c with sub := y } = { secCk c with sub := y } := by
 unfold secCk dayCk
 repeat' split
 all_goals first | rfl | (exfalso; simp_all; done)
def aHl (c : Ck) (k : Nat) : secCk { jU c k with sub := (jU c k).sub - 1048576 } = jU c (k + 1) := aOD _ _
def aOn {a : Int} (h : 0 ≤ a ∧ a < 2) (x y : Bool) : bor .u8 (bor .u8 a (iM x 64)) (iM y 128) = a + iM x 64 + iM y 128 := by
 rcases (show a = 0 ∨ a = 1 by omega) with rfl | rfl <;> cases x <;> cases y <;> decide
def aQw {x : Int} (h : 0 ≤ x ∧ x < 256) : aH .u8 x 248 = x / 8 * 8 := aX (p := fun x => aH .u8 x 248 = x / 8 * 8) y_z h.1 h.2
def aNl {x : Int} (h : 0 ≤ x ∧ x < 256) : bor .u8 (x * 2 % 256) 1 = x % 128 * 2 + 1 := aX (p := fun x => bor .u8 (x * 2 % 256) 1 = x % 128 * 2 + 1) y_z h.1 h.2
def aNa {x : Int} (h : 0 ≤ x ∧ x < 256) : hQ .u8 x 128 = x % 128 := aX (p := fun x => hQ .u8 x 128 = x % 128) y_z h.1 h.2
def aNz {x : Int} (h : 0 ≤ x ∧ x < 256) : aH .u8 x 129 = x / 128 * 128 + x % 2 := aX (p := fun x => aH .u8 x 129 = x / 128 * 128 + x % 2) y_z h.1 h.2
def aJZ {x : Int} (h : 0 ≤ x ∧ x < 256) : bor .u8 x 126 = x / 128 * 128 + 126 + x % 2 := aX (p := fun x => bor .u8 x 126 = x / 128 * 128 + 126 + x % 2) y_z h.1 h.2
def aLO {x : Int} (h : 0 ≤ x ∧ x < 256) : bor .u8 x 248 = 248 + x % 8 := aX (p := fun x => bor .u8 x 248 = 248 + x % 8) y_z h.1 h.2
section
variable {b : Bd}
def flat4 : ∀ (l : List Vc), (aF cVc l).length = 4 * l.length
 | [] => rfl
 | v :: l => by show (cVc v ++ aF cVc l).length = _; rw [La_, flat4 l, tW, Lc_]; omega
def aGl : ∀ (l : List Vc) (n k : Nat) (x : AH), n < l.length → (cVc (l.getD n vcZ))[k]? = some x → (aF cVc l)[n * 4 + k]? = some x
 | v :: l, 0, k, x, _, hx => eI (A := cVc v) (by simpa using hx)
 | v :: l, n + 1, k, x, hn, hx => bU (A := cVc v) (n := n * 4 + k) (by rw [tW]; omega) (aGl l n k x (by simpa using hn) (by simpa using hx))
def aEH : ∀ (l : List Vc) (n k : Nat) (x : AH) (y : Vc), n < l.length → k < 4 → (cVc (l.getD n vcZ)).set k x = cVc y → aO (aF cVc l) (n * 4 + k) [x] = aF cVc (l.set n y)
 | v :: l, 0, k, x, y, _, hk, hy => by
  have h1 : aO (cVc v) k [x] = cVc y := by
   rw [← hy, show ((v :: l).getD 0 vcZ) = v from rfl]
   rcases (show k = 0 ∨ k = 1 ∨ k = 2 ∨ k = 3 by omega) with rfl | rfl | rfl | rfl <;> rfl
  show aO (cVc v ++ aF cVc l) (0 * 4 + k) [x] = cVc y ++ aF cVc l
  rw [fw, bi, eA (by rw [tW, ar]; omega), h1]
 | v :: l, n + 1, k, x, y, hn, hk, hy => by
  show aO (cVc v ++ aF cVc l) ((n + 1) * 4 + k) [x] = cVc v ++ aF cVc (l.set n y)
  have hn' : n < l.length := by simpa using hn
  rw [aZ (n := n * 4 + k) (by rw [tW]; omega) (by rw [flat4, ar]; omega), aEH l n k x y hn' hk (by simpa using hy)]
structure Bd.Ln (b : Bd) : Prop where
 lR : b.regs.length = 48
 bR : aT b.regs
 lV : b.vs.length = 4
def Bd.Wf.ln (h : b.Wf) : b.Ln := ⟨h.lR, h.bR, h.lV⟩
instance : Coe b.Wf b.Ln := ⟨Bd.Wf.ln⟩
def Bd.Ln.r_ (h : b.Ln) (n : Nat) : 0 ≤ b.r n ∧ b.r n < 256 := h.bR.get n
def Bd.Ln.setV (h : b.Ln) (n : Nat) (x : Vc) : (b.setV n x).Ln := ⟨h.lR, h.bR, y_c7⟩
def Bd.Ln.slide_ (h : b.Ln) (x : Int) : ({ b with slide := x } : Bd).Ln := ⟨h.lR, h.bR, h.lV⟩
def cBd_len (h : b.Ln) : (cBd b).length = 70 := by simp [cBd, h.lR, h.lV, flat4]
def cBd_r (h : b.Ln) {j : Nat} (hj : j < 48) : (cBd b)[j]? = some (.int .u8 (b.r j)) := eI (cX y_cL)
def aAB (h : b.Ln) {j : Nat} {v : AH} (hv : ([.bool b.on, .int .i64 b.div, .int .i64 b.step] : AA)[j]? = some v) : (cBd b)[48 + j]? = some v := bU (n := j) y_cC (eI hv)
def cBd_on (h : b.Ln) : (cBd b)[48]? = some (.bool b.on) := aAB h (j := 0) rfl
def aDr (h : b.Ln) : (cBd b)[49]? = some (.int .i64 b.div) := aAB h (j := 1) rfl
def cBd_step (h : b.Ln) : (cBd b)[50]? = some (.int .i64 b.step) := aAB h (j := 2) rfl
def qG (h : b.Ln) {n k : Nat} {x : AH} (hn : n < 4) (hx : (cVc (b.v n))[k]? = some x) : (cBd b)[51 + n * 4 + k]? = some x := by
 rw [dt]
 exact bU (n := 3 + (n * 4 + k)) y_b6 (bU (n := n * 4 + k) rfl (eI (aGl _ _ _ _ (by rw [h.lV]; exact hn) hx)))
def aBH (h : b.Ln) {j : Nat} {v : AH} (hv : ([.int .i64 b.pitch, .int .i64 b.slide, .bool b.slides] : AA)[j]? = some v) : (cBd b)[67 + j]? = some v :=
 bU (n := 19 + j) y_b6 (bU (n := 16 + j) (by show 19 + j = 3 + (16 + j); omega) (bU (n := j) (by rw [flat4, h.lV]) hv))
def sL (h : b.Ln) : (cBd b)[67]? = some (.int .i64 b.pitch) := aBH h (j := 0) rfl
def aAY (h : b.Ln) : (cBd b)[68]? = some (.int .i64 b.slide) := aBH h (j := 1) rfl
def aIG (h : b.Ln) : (cBd b)[69]? = some (.bool b.slides) := aBH h (j := 2) rfl
def putBd_r (h : b.Ln) {j : Nat} (hj : j < 48) (x : Int) : aO (cBd b) j [.int .u8 x] = cBd (putB j x b) := by
 unfold cBd
 rw [eA (by rw [Lm_, h.lR, ar]; omega), jM .u8 y_cL]
 rfl
def wG (h : b.Ln) {j : Nat} {v : AH} (hj : j < 3) : aO (cBd b) (48 + j) [v] = b.regs.map (.int .u8) ++ (aO [.bool b.on, .int .i64 b.div, .int .i64 b.step] j [v] ++ (aF cVc b.vs ++ [.int .i64 b.pitch, .int .i64 b.slide, .bool b.slides])) := by
 unfold cBd
 rw [aZ (n := j) y_cC y_be, eA y_be]
def aFq (h : b.Ln) (x : Bool) : aO (cBd b) 48 [.bool x] = cBd { b with on := x } := wG h (j := 0) y_b
def aAw (h : b.Ln) (x : Int) : aO (cBd b) 49 [.int .i64 x] = cBd { b with div := x } := wG h (j := 1) y_b
def putBd_step (h : b.Ln) (x : Int) : aO (cBd b) 50 [.int .i64 x] = cBd { b with step := x } := wG h (j := 2) y_b
def putBd_v (h : b.Ln) {n k : Nat} {x : AH} {y : Vc} (hn : n < 4) (hk : k < 4) (hy : (cVc (b.v n)).set k x = cVc y) : aO (cBd b) (51 + n * 4 + k) [x] = cBd (b.setV n y) := by
 rw [dt]
 unfold cBd
 rw [aZ (n := 3 + (n * 4 + k)) y_b6 y_cN, aZ (A := [.bool b.on, .int .i64 b.div, .int .i64 b.step]) (o := 3 + (n * 4 + k)) (n := n * 4 + k) rfl y_cN, eA (by rw [flat4, h.lV, ar]; omega),
  aEH b.vs n k x y (by rw [h.lV]; exact hn) hk hy]
 rfl
def zO (h : b.Ln) {j : Nat} {v : AH} (hj : j < 3) : aO (cBd b) (67 + j) [v] = b.regs.map (.int .u8) ++ ([.bool b.on, .int .i64 b.div, .int .i64 b.step] ++ (aF cVc b.vs ++ aO [.int .i64 b.pitch, .int .i64 b.slide, .bool b.slides] j [v])) := by
 unfold cBd
 rw [aZ (n := 19 + j) y_b6 y_cN, aZ (A := [.bool b.on, .int .i64 b.div, .int .i64 b.step]) (o := 19 + j) (n := 16 + j) (by show 19 + j = 3 + (16 + j); omega) y_cN, aZ (n := j) (by rw [flat4, h.lV]) y_be]
def wN (h : b.Ln) (x : Int) : aO (cBd b) 67 [.int .i64 x] = cBd { b with pitch := x } := zO h (j := 0) y_b
def wL (h : b.Ln) (x : Int) : aO (cBd b) 68 [.int .i64 x] = cBd { b with slide := x } := zO h (j := 1) y_b
def aAZ (h : b.Ln) (x : Bool) : aO (cBd b) 69 [.bool x] = cBd { b with slides := x } := zO h (j := 2) y_b
def v_set (h : b.Ln) {n : Nat} (hn : n < 4) (x : Vc) : (b.setV n x).v n = x := by
 unfold Bd.v Bd.setV
 rw [Gd_, ic (by rw [h.lV]; exact hn)]; rfl
def setV_same (h : b.Ln) {n : Nat} (hn : n < 4) : b.setV n (b.v n) = b := by
 have hl : n < b.vs.length := by rw [h.lV]; exact hn
 have h1 : b.v n = b.vs[n] := by unfold Bd.v; rw [Gd_, ak hl]; rfl
 show ({ b with vs := b.vs.set n (b.v n) } : Bd) = b
 rw [h1, List.set_getElem_self]
def setV_setV (b : Bd) (n : Nat) (x y : Vc) : (b.setV n x).setV n y = b.setV n y := by unfold Bd.setV; dsimp only; rw [List.set_set]
def aJ6 {v : Nat} {x : Vc} (h : ¬ (v = 2 ∨ b.r (5 * v + 2) % 8 = 0)) (h2 : 0 < x.wait - 1) : levV b v x = { x with wait := x.wait - 1 } := by unfold levV; rw [if_neg h, if_pos h2]
def aQ0 {v : Nat} {x : Vc} (h : ¬ (v = 2 ∨ b.r (5 * v + 2) % 8 = 0)) (h2 : ¬ 0 < x.wait - 1) (h3 : b.r (5 * v + 2) / 8 % 2 = 1) : levV b v x = { x with wait := b.r (5 * v + 2) % 8, lev := min (x.lev + 1) 15 } := by unfold levV; rw [if_neg h, if_neg h2, if_pos h3]
def aMt {v : Nat} {x : Vc} (h : ¬ (v = 2 ∨ b.r (5 * v + 2) % 8 = 0)) (h2 : ¬ 0 < x.wait - 1) (h3 : ¬ b.r (5 * v + 2) / 8 % 2 = 1) : levV b v x = { x with wait := b.r (5 * v + 2) % 8, lev := max (x.lev - 1) 0 } := by unfold levV; rw [if_neg h, if_neg h2, if_neg h3]
def aJw (h : b.slides = false) : slideB b = b := if_pos h
section
variable (h1 : b.slides = true)
include h1
def aGZ (h2 : 0 < b.slide - 1) : slideB b = { b with slide := b.slide - 1 } := by unfold slideB; rw [if_neg y_c4, if_pos h2]
def aHm (h2 : ¬ 0 < b.slide - 1) (h3 : everyB b = 0) : slideB b = bW { b with slide := b.slide - 1 } := by unfold slideB; rw [if_neg y_c4, if_neg h2]; dsimp only; rw [if_pos h3]
def aHn (h2 : ¬ 0 < b.slide - 1) (h3 : ¬ everyB b = 0) (h4 : nZ (bW { b with slide := b.slide - 1 }) = true) : slideB b = kV (bW { b with slide := b.slide - 1 }) := by unfold slideB kV; rw [if_neg y_c4, if_neg h2]; dsimp only; rw [if_neg h3, if_pos h4, if_pos h4]
def aK8 (h2 : ¬ 0 < b.slide - 1) (h3 : ¬ everyB b = 0) (h4 : nZ (bW { b with slide := b.slide - 1 }) = false) (h5 : byB b = 0) : slideB b = bW { b with slide := b.slide - 1 } := by unfold slideB; rw [if_neg y_c4, if_neg h2]; dsimp only; rw [if_neg h3, if_neg y_dO, if_pos h5]
def aI9 (h2 : ¬ 0 < b.slide - 1) (h3 : ¬ everyB b = 0) (h4 : nZ (bW { b with slide := b.slide - 1 }) = false) (h5 : ¬ byB b = 0) : slideB b = kV (aCS (bW { b with slide := b.slide - 1 })) := by unfold slideB; rw [if_neg y_c4, if_neg h2]; dsimp only; rw [if_neg h3, if_neg y_dO, if_neg h5]
end
def aOI (h : nZ b = false) : kV b = b := by unfold kV; rw [if_neg (by rw [h]; decide)]
def aS9 (h : b.Wf) : (bW { b with slide := b.slide - 1 }).Wf := by
 have := rQ b
 exact ⟨h.lR, h.bR, h.lV, h.div, h.step, h.oV, h.pitch, y_cg⟩
def aP3 {x y : Int} (hx : 0 ≤ x ∧ x < 256) (hy : 0 ≤ y ∧ y < 8) : bor .u8 (x / 8 * 8) y = x / 8 * 8 + y := by
 rcases (show y = 0 ∨ y = 1 ∨ y = 2 ∨ y = 3 ∨ y = 4 ∨ y = 5 ∨ y = 6 ∨ y = 7 by omega) with rfl | rfl | rfl | rfl | rfl | rfl | rfl | rfl
 ·exact aX (p := fun x => bor .u8 (x / 8 * 8) 0 = x / 8 * 8 + 0) y_z hx.1 hx.2
 ·exact aX (p := fun x => bor .u8 (x / 8 * 8) 1 = x / 8 * 8 + 1) y_z hx.1 hx.2
 ·exact aX (p := fun x => bor .u8 (x / 8 * 8) 2 = x / 8 * 8 + 2) y_z hx.1 hx.2
 ·exact aX (p := fun x => bor .u8 (x / 8 * 8) 3 = x / 8 * 8 + 3) y_z hx.1 hx.2
 ·exact aX (p := fun x => bor .u8 (x / 8 * 8) 4 = x / 8 * 8 + 4) y_z hx.1 hx.2
 ·exact aX (p := fun x => bor .u8 (x / 8 * 8) 5 = x / 8 * 8 + 5) y_z hx.1 hx.2
 ·exact aX (p := fun x => bor .u8 (x / 8 * 8) 6 = x / 8 * 8 + 6) y_z hx.1 hx.2
 ·exact aX (p := fun x => bor .u8 (x / 8 * 8) 7 = x / 8 * 8 + 7) y_z hx.1 hx.2
def aMo {x : Int} (h : 0 ≤ x ∧ x < 256) : hQ .u8 x 7 = x / 8 * 8 := aX (p := fun x => hQ .u8 x 7 = x / 8 * 8) y_z h.1 h.2
def aPH {x y : Int} (hx : 0 ≤ x ∧ x < 8) (hy : 0 ≤ y ∧ y < 8) : (bor .i64 x y != 0) = decide (x ≠ 0 ∨ y ≠ 0) := by
 have key : ∀ a b : Fin 8, (bor .i64 (a.val : Int) (b.val : Int) != 0) = decide ((a.val : Int) ≠ 0 ∨ (b.val : Int) ≠ 0) := by decide +kernel
 have h := key ⟨x.toNat, y_y⟩ ⟨y.toNat, y_y⟩
 rw [show ((x.toNat : Nat) : Int) = x from dh hx.1, show ((y.toNat : Nat) : Int) = y from dh hy.1] at h
 exact h
def ones_cBd (b : Bd) : eD (cBd b) = true := by
 have h4 : ∀ l : List Vc, eD (aF cVc l) = true := fun l => by
  induction l with
  | nil => rfl
  | cons v l ih => show eD (cVc v ++ aF cVc l) = true; unfold eD at ih ⊢; rw [fj, ih]; rfl
 have h1 := dZ .u8 b.regs
 have h2 := h4 b.vs
 unfold eD at h1 h2 ⊢
 unfold cBd
 rw [fj, fj, fj, h1, h2]
 rfl
def putZ (h : b.Ln) : aO (cBd bdZ) 0 (cBd b) = cBd b := by
 unfold aO
 rw [gc, ci, bi, dj (by rw [cBd_len h, cBd_len bdZ_wf]; decide), bg]
def aNt {w : AI} {bb : Nat} (hr : Row w bb 0 (cBd b)) : Row w bb 22 ((b.regs.drop 22).map (.int .u8)) := fun i v hi => by
 have h1 : (cBd b)[22 + i]? = some v := eI (by rw [go, dp] at hi; exact hi)
 have := hr (22 + i) v h1
 rwa [bi] at this
def aQp (h : b.Ln) : aO (cBd { bdZ with div := b.div, step := b.step }) 22 (((b.regs.drop 22).map U_).take (min 26 26)) = cBd (offB b) := by
 have hl : ((b.regs.drop 22).map U_).length = 26 := by rw [Lm_, Ld_, h.lR]
 rw [c8 (by rw [hl]; decide)]
 unfold cBd
 rw [eA (by rw [hl]; exact av 48)]
 have h1 : aO ((List.replicate 48 (0 : Int)).map U_) 22 ((b.regs.drop 22).map U_) = (offB b).regs.map (.int .u8) := by
  have e : (offB b).regs = List.replicate 22 0 ++ b.regs.drop 22 := rfl
  have d : List.drop (22 + 26) ((List.replicate 48 (0 : Int)).map U_) = [] := dj (by rw [Lm_, bz]; decide)
  unfold aO
  rw [hl, e, d, be, bg]
  rfl
 exact cA_ (· ++ _) h1
def tA : ∀ (l : List Vc) (n : Nat), n < l.length → ((aF cVc l).drop (n * 4)).take 4 = cVc (l.getD n vcZ)
 | v :: l, 0, _ => by show List.take 4 (cVc v ++ aF cVc l) = cVc v; rw [i3 (by rw [tW]; exact av 4)]; rfl
 | v :: l, n + 1, hn => by
  have h1 : (n + 1) * 4 = (cVc v).length + n * 4 := by rw [tW]; omega
  show List.take 4 (List.drop ((n + 1) * 4) (cVc v ++ aF cVc l)) = _
  rw [h1, ij, dj o_m, ci, show (cVc v).length + n * 4 - (cVc v).length = n * 4 by omega, tA l n (by simpa using hn)]
  rfl
def row_vs (h : b.Ln) {w : AI} {bb : Nat} (hr : Row w bb 0 (cBd b)) : Row w bb 51 (aF cVc b.vs) := fun i v hi => by
 have h1 : (cBd b)[51 + i]? = some v := bU (n := 3 + i) y_b6 (bU (A := [.bool b.on, .int .i64 b.div, .int .i64 b.step]) (n := i) rfl (eI hi))
 have := hr (51 + i) v h1
 rwa [bi] at this
def kQ (b : Bd) {n : Nat} (hn : n < 4) (h : (b.v n).on = true) : bor .u8 (onV b n) (2 ^ n) = onV b (n + 1) := by
 have key : ∀ a x y z : Bool, bor .u8 (112 + (if a = true then 128 else 0)) 1 = 112 + (if a = true then 128 else 0) + 1 ∧ bor .u8 (112 + (if a = true then 128 else 0) + (if x = true then 1 else 0)) 2 = 112 + (if a = true then 128 else 0) + (if x = true then 1 else 0) + 2 ∧
   bor .u8 (112 + (if a = true then 128 else 0) + (if x = true then 1 else 0) + (if y = true then 2 else 0)) 4 = 112 + (if a = true then 128 else 0) + (if x = true then 1 else 0) + (if y = true then 2 else 0) + 4 ∧
   bor .u8 (112 + (if a = true then 128 else 0) + (if x = true then 1 else 0) + (if y = true then 2 else 0) + (if z = true then 4 else 0)) 8 = 112 + (if a = true then 128 else 0) + (if x = true then 1 else 0) + (if y = true then 2 else 0) + (if z = true then 4 else 0) + 8 := by decide +kernel
 have k := key b.on (b.v 0).on (b.v 1).on (b.v 2).on
 rcases (show n = 0 ∨ n = 1 ∨ n = 2 ∨ n = 3 by omega) with rfl | rfl | rfl | rfl
 ·show bor .u8 (onV b 0) 1 = onV b 0 + (if (b.v 0).on = true then 1 else 0); rw [if_pos h]; exact k.1
 ·show bor .u8 (onV b 1) 2 = onV b 1 + (if (b.v 1).on = true then 2 else 0); rw [if_pos h]; exact k.2.1
 ·show bor .u8 (onV b 2) 4 = onV b 2 + (if (b.v 2).on = true then 4 else 0); rw [if_pos h]; exact k.2.2.1
 ·show bor .u8 (onV b 3) 8 = onV b 3 + (if (b.v 3).on = true then 8 else 0); rw [if_pos h]; exact k.2.2.2
def aCt (b : Bd) {n : Nat} (h : (b.v n).on = false) : onV b n = onV b (n + 1) := by
 show onV b n = onV b n + (if (b.v n).on = true then 2 ^ n else 0)
 rw [if_neg (by rw [h]; decide)]; omega
def xZ (f : Bd → Nat → Vc → Vc) (b : Bd) : ∀ n, (turnV f b n).step = b.step
 | 0 => rfl
 | n + 1 => xZ f b n
def sV (b : Bd) : (halfB b).step = b.step := by unfold halfB; split; exact xZ _ _ _; rfl
def aHa (b : Bd) : (slideB b).step = b.step := by
 unfold slideB kV
 dsimp only
 repeat' split
 all_goals rfl
def beat_step (b : Bd) : (beatB b).step = b.step := by
 unfold beatB
 split
 ·rw [aHa, sV]
 split
 ·unfold rV; rw [xZ, sV]
 ·exact sV b
def aTS {x y : Int} (hy : 0 ≤ y ∧ y < 8) (_hx : 0 ≤ x) : shr .i64 x y = x / 2 ^ y.toNat := by
 unfold shr
 have : min y.toNat IntKind.i64.bits = y.toNat := eq (by show y.toNat ≤ 64; omega)
 rw [this, ec]
 exact jp (f8 y_b)
end
structure Ad where
 mb : Nat
 ub : Nat
 rb : Nat
 ob : Nat
 oc : Nat
 sp : AA
 rc : Nat
 rs : AA
 plan : AH
 tab : AH
def tG (A : Ad) (m : Mm) : AA := [.int .u8 m.flags, .int .u8 m.lets, .int .u64 m.steps, .int .u64 m.cycles, .slice (Q_ A.ob) m.rom.length A.oc, A.plan] ++ (cHd m.hd ++ [A.tab, P_ A.ub, .slice (Q_ A.rb) m.ram.length A.rc])
def fD (A : Ad) (acc : AH) (m : Mm) : AA := tG A m ++ (m.work.map (.int .u8) ++ (m.high.map (.int .u8) ++ [acc]))
def cMm (A : Ad) (acc : AH) (m : Mm) : AA := cS m.cpu ++ (cBk m.bk ++ (cCk m.ck ++ (cTm m.tm ++ (cPd m.pd ++ (cPt m.pt ++ (cCp m.cp ++ (cBd m.bd ++ fD A acc m)))))))
section
variable {A : Ad} {acc : AH} {m : Mm}
def iB (m : Mm) : AA := cS m.cpu ++ (cBk m.bk ++ (cCk m.ck ++ (cTm m.tm ++ (cPd m.pd ++ (cPt m.pt ++ cCp m.cp)))))
def mZ : cMm A acc m = iB m ++ (cBd m.bd ++ fD A acc m) := rfl
def fQ : (iB m).length = 49 := rfl
def midM_len : (tG A m).length = 16 := rfl
structure MLn (m : Mm) : Prop where
 bd : m.bd.Ln
 work : m.work.length = 8192
 high : m.high.length = 127
def Mm.Wf.ln (h : m.Wf) : MLn m := ⟨h.bd.ln, h.lWork, h.lHigh⟩
def cMm_len (h : MLn m) : (cMm A acc m).length = 8455 := by
 rw [mZ, La_, fQ, La_, cBd_len h.bd]
 unfold fD
 rw [La_, midM_len, La_, Lm_, La_, Lm_, h.work, h.high, ar]
def aQG (h : m.Wf) {a : Int} (_ha : 0 ≤ a ∧ a < 65536) : 0 ≤ aBC a m.bk ∧ aBC a m.bk < m.rom.length := by
 have h1 := aFo h.bk a
 have h2 := h1.2.2 h.banks
 have h3 := h.lRom
 unfold aBC
 omega
def uV (k : Int) (is : Bool) (m : Mm) : (askM k is m).u = m.u := by unfold askM; split <;> rfl
def aRO (n : Nat) (x : Int) : cMm A acc { m with ram := m.ram.set n x } = cMm A acc m := by
 unfold cMm fD tG
 dsimp only
 rw [ca]
def pA (k : Int) (is : Bool) (m : Mm) : (askM k is m).ram = m.ram := by unfold askM; split <;> rfl
def oX (k : Int) (is : Bool) (m : Mm) : (askM k is m).rom = m.rom := by unfold askM; split <;> rfl
def aGk (a x : Int) (m : Mm) : (setDeviceM a x m).u = m.u := by
 unfold setDeviceM
 split
 ·exact uV _ _ _
 repeat' split
 all_goals rfl
def aDq (a x : Int) (m : Mm) : (setDeviceM a x m).ram = m.ram := by
 unfold setDeviceM
 split
 ·exact pA _ _ _
 repeat' split
 all_goals rfl
def aKH (a x : Int) (m : Mm) : (pokeM a x m).rom = m.rom := by
 unfold pokeM
 split
 ·unfold nI; split <;> rfl
 split
 ·exact oX _ _ _
 split
 ·unfold iN; split
  ·rfl
  split <;> rfl
 split
 ·rfl
 split
 ·rfl
 unfold setDeviceM
 split
 ·exact oX _ _ _
 repeat' split
 all_goals rfl
def aEJ (m : Mm) : (cyc2 (cyc1 m)).ram = m.ram := (pA _ _ _).trans (pA _ _ _)
def aEj (m : Mm) : (cyc2 (cyc1 m)).rom = m.rom := (oX _ _ _).trans (oX _ _ _)
def aGu (m : Mm) : (cyc3 m).ram = m.ram ∧ (cyc3 m).rom = m.rom := by unfold cyc3; split <;> exact ⟨rfl, rfl⟩
def aFa (m : Mm) : (nJ m).ram = m.ram ∧ (nJ m).rom = m.rom := by unfold nJ; split <;> exact ⟨rfl, rfl⟩
def cycleM_ram (m : Mm) : (cycleM m).ram = m.ram := by
 unfold cycleM
 rw [(aFa _).1]
 refine ((pA _ _ _).trans (pA _ _ _)).trans ?_
 show (cyc3 (cyc2 (cyc1 m))).ram = m.ram
 rw [(aGu _).1, aEJ]
def cycleM_rom (m : Mm) : (cycleM m).rom = m.rom := by
 unfold cycleM
 rw [(aFa _).2]
 refine ((oX _ _ _).trans (oX _ _ _)).trans ?_
 show (cyc3 (cyc2 (cyc1 m))).rom = m.rom
 rw [(aGu _).2, aEj]
def aTN (m : Mm) : (cyc1 m).u = m.u := uV _ _ _
def aTG (m : Mm) : (cyc2 m).u = m.u := uV _ _ _
def cyc5_u (m : Mm) : (cyc5 m).u = tickU m.u := (uV _ _ _).trans (uV _ _ _)
def aNU (hb : qA m.cp = true) : cyc3 m = { m with cp := tickCp m.cp, u := kT m.u (zT m.cp) (lL (sC m.cp) { m with cp := tickCp m.cp }) } := if_pos (ct hb)
def aRg (hb : qA m.cp = false) : cyc3 m = m ∧ ({ m with cp := tickCp m.cp } : Mm) = m := by
 have h0 := c7 hb
 refine ⟨if_neg h0, ?_⟩
 have h1 : tickCp m.cp = m.cp := if_neg h0
 rw [h1]
def Els.laterM {α : Type} {w0 w : AI} {ms : AE} {H : aC} {c : α → AA} {a : AC} {l : List α} (h : Els w0 c a l) (hm : ∀ p, a = some p → p.block ∉ ms) (hw : St w0 ms H w) : Els w c a l := fun hl => by
 obtain ⟨b, off, rfl, hr⟩ := h hl
 exact ⟨b, off, rfl, aN hr (hm _ rfl) w hw⟩
def aNL {j : Nat} {v : AH} (hv : (iB m)[j]? = some v) : (cMm A acc m)[j]? = some v := eI (A := iB m) hv
def yA (h : MLn m) {j : Nat} {v : AH} (hv : (fD A acc m)[j]? = some v) : (cMm A acc m)[119 + j]? = some v :=
 bU (A := iB m) (n := 70 + j) (by rw [fQ]; omega) (bU (n := j) (by rw [cBd_len h.bd]) hv)
def get_mid (h : MLn m) {j : Nat} {v : AH} (hv : (tG A m)[j]? = some v) : (cMm A acc m)[119 + j]? = some v := yA h (eI hv)
def aGC (h : MLn m) {j : Nat} (hj : j < 8192) : (cMm A acc m)[135 + j]? = some (.int .u8 (m.work.getD j 0)) := by
 rw [show 135 + j = 119 + (16 + j) by omega]
 exact yA h (bU (n := j) y_cW (eI (cX (by rw [h.work]; exact hj))))
def get_high (h : MLn m) {j : Nat} (hj : j < 127) : (cMm A acc m)[8327 + j]? = some (.int .u8 (m.high.getD j 0)) := by
 rw [show 8327 + j = 119 + (16 + (8192 + j)) by omega]
 exact yA h (bU (n := 8192 + j) y_cW (bU (n := j) y_dz (eI (cX (by rw [h.high]; exact hj)))))
def aIc (h : MLn m) : (cMm A acc m)[8454]? = some acc := by
 rw [show (8454 : Nat) = 119 + (16 + (8192 + 127)) by omega]
 exact yA h (bU (n := 8192 + 127) y_cW (bU (n := 127) y_dz (bU (n := 0) (by rw [Lm_, h.high]) rfl)))
def pJ {w : AI} {b n : Nat} {X S Y : AA} (hr : Row w b 0 (X ++ (S ++ Y))) (hn : X.length = n) : Row w b n S := fun i v hi => by
 have h1 : (X ++ (S ++ Y))[n + i]? = some v := bU (n := i) (by rw [hn]) (eI hi)
 have := hr (n + i) v h1
 rwa [bi] at this
variable {w : AI} {b : Nat}
def aFs (hr : Row w b 0 (cMm A acc m)) : Row w b 0 (cS m.cpu) := pJ (X := []) hr rfl
def rowM_bk (hr : Row w b 0 (cMm A acc m)) : Row w b 14 (cBk m.bk) := pJ (X := cS m.cpu) hr rfl
def rowM_ck (hr : Row w b 0 (cMm A acc m)) : Row w b 22 (cCk m.ck) := pJ (X := cS m.cpu ++ cBk m.bk) (Y := cTm m.tm ++ (cPd m.pd ++ (cPt m.pt ++ (cCp m.cp ++ (cBd m.bd ++ fD A acc m))))) hr rfl
def aDO (hr : Row w b 0 (cMm A acc m)) : Row w b 34 (cTm m.tm) := pJ (X := cS m.cpu ++ (cBk m.bk ++ cCk m.ck)) (Y := cPd m.pd ++ (cPt m.pt ++ (cCp m.cp ++ (cBd m.bd ++ fD A acc m)))) hr rfl
def aDw (hr : Row w b 0 (cMm A acc m)) : Row w b 39 (cPd m.pd) := pJ (X := cS m.cpu ++ (cBk m.bk ++ (cCk m.ck ++ cTm m.tm))) (Y := cPt m.pt ++ (cCp m.cp ++ (cBd m.bd ++ fD A acc m))) hr rfl
def aDs (hr : Row w b 0 (cMm A acc m)) : Row w b 41 (cPt m.pt) := pJ (X := cS m.cpu ++ (cBk m.bk ++ (cCk m.ck ++ (cTm m.tm ++ cPd m.pd)))) (Y := cCp m.cp ++ (cBd m.bd ++ fD A acc m)) hr rfl
def rowM_cp (hr : Row w b 0 (cMm A acc m)) : Row w b 47 (cCp m.cp) := pJ (X := cS m.cpu ++ (cBk m.bk ++ (cCk m.ck ++ (cTm m.tm ++ (cPd m.pd ++ cPt m.pt))))) (Y := cBd m.bd ++ fD A acc m) hr rfl
def rowM_bd (hr : Row w b 0 (cMm A acc m)) : Row w b 49 (cBd m.bd) := pJ (X := iB m) (Y := fD A acc m) hr rfl
def mU {o : Nat} {vs : AA} (hv : o + vs.length ≤ 49) : aO (cMm A acc m) o vs = aO (iB m) o vs ++ (cBd m.bd ++ fD A acc m) := eA (A := iB m) (by rw [fQ]; exact hv)
def aN4 (x : CS) : aO (cMm A acc m) 0 (cS x) = cMm A acc { m with cpu := x } := (mU (ae rfl)).trans rfl
def aId (x : Bk) : aO (cMm A acc m) 14 (cBk x) = cMm A acc { m with bk := x } := (mU (ae rfl)).trans rfl
def putM_ck (x : Ck) : aO (cMm A acc m) 22 (cCk x) = cMm A acc { m with ck := x } := (mU (ae rfl)).trans rfl
def aIb (x : Tm) : aO (cMm A acc m) 34 (cTm x) = cMm A acc { m with tm := x } := (mU (ae rfl)).trans rfl
def aHW (x : Pd) : aO (cMm A acc m) 39 (cPd x) = cMm A acc { m with pd := x } := (mU (ae rfl)).trans rfl
def aHw (x : Pt) : aO (cMm A acc m) 41 (cPt x) = cMm A acc { m with pt := x } := (mU (ae rfl)).trans rfl
def xD (x : Cp) : aO (cMm A acc m) 47 (cCp x) = cMm A acc { m with cp := x } := (mU (ae rfl)).trans rfl
def putM_bd (h : MLn m) {x : Bd} (hx : x.Ln) : aO (cMm A acc m) 49 (cBd x) = cMm A acc { m with bd := x } := by
 rw [mZ, aZ (n := 0) (by rw [fQ]) (by rw [La_, cBd_len hx, cBd_len h.bd]; omega), eA (by rw [cBd_len hx, cBd_len h.bd]; decide)]
 have h1 : aO (cBd m.bd) 0 (cBd x) = cBd x := by
  unfold aO
  rw [gc, ci, bi, dj (by rw [cBd_len hx, cBd_len h.bd]; decide), bg]
 rw [h1]
 rfl
def yO (h : MLn m) {o : Nat} {vs : AA} (hv : o + vs.length ≤ (fD A acc m).length) : aO (cMm A acc m) (119 + o) vs = iB m ++ (cBd m.bd ++ aO (fD A acc m) o vs) := by
 rw [mZ, aZ (n := 70 + o) (by rw [fQ]; omega) (by rw [La_, cBd_len h.bd]; omega), aZ (n := o) (by rw [cBd_len h.bd]) hv]
def tailM_len (h : MLn m) : (fD A acc m).length = 8336 := by
 unfold fD
 rw [La_, midM_len, La_, Lm_, La_, Lm_, h.work, h.high, ar]
def tS (h : MLn m) {o : Nat} {v : AH} (hv : o < 16) : aO (cMm A acc m) (119 + o) [v] = iB m ++ (cBd m.bd ++ (aO (tG A m) o [v] ++ (m.work.map (.int .u8) ++ (m.high.map (.int .u8) ++ [acc])))) := by
 rw [yO h y_bX]
 unfold fD
 rw [eA (by rw [midM_len, ar]; omega)]
def qR (h : MLn m) (x : Int) : aO (cMm A acc m) 119 [.int .u8 x] = cMm A acc { m with flags := x } := (tS h (o := 0) y_b).trans rfl
def sX (h : MLn m) (x : Int) : aO (cMm A acc m) 120 [.int .u8 x] = cMm A acc { m with lets := x } := (tS h (o := 1) y_b).trans rfl
def aDa (h : MLn m) (x : Int) : aO (cMm A acc m) 121 [.int .u64 x] = cMm A acc { m with steps := x } := (tS h (o := 2) y_b).trans rfl
def aBs (h : MLn m) (x : Int) : aO (cMm A acc m) 122 [.int .u64 x] = cMm A acc { m with cycles := x } := (tS h (o := 3) y_b).trans rfl
def aJX (h : MLn m) {j : Nat} (hj : j < 8192) (x : Int) : aO (cMm A acc m) (135 + j) [.int .u8 x] = cMm A acc { m with work := m.work.set j x } := by
 rw [show 135 + j = 119 + (16 + j) by omega, yO h y_bX]
 unfold fD
 rw [aZ (n := j) y_cW (by rw [La_, Lm_, h.work, ar]; omega), eA (by rw [Lm_, h.work, ar]; omega), jM .u8 (by rw [h.work]; exact hj)]
 rfl
def putM_high (h : MLn m) {j : Nat} (hj : j < 127) (x : Int) : aO (cMm A acc m) (8327 + j) [.int .u8 x] = cMm A acc { m with high := m.high.set j x } := by
 rw [show 8327 + j = 119 + (16 + (8192 + j)) by omega, yO h y_bX]
 unfold fD
 rw [aZ (n := 8192 + j) y_cW (by rw [La_, Lm_, La_, Lm_, h.work, h.high, ar]; omega), aZ (n := j) y_dz (by rw [La_, Lm_, h.high, ar]; omega), eA (by rw [Lm_, h.high, ar]; omega), jM .u8 (by rw [h.high]; exact hj)]
 rfl
def aBV (h : MLn m) (x : AH) : aO (cMm A acc m) 8454 [x] = cMm A x m := by
 rw [show (8454 : Nat) = 119 + (16 + (8192 + 127)) by omega, yO h y_bX]
 unfold fD
 rw [aZ (n := 8192 + 127) y_cW (by rw [La_, Lm_, La_, Lm_, h.work, h.high, ar, ar]; omega), aZ (n := 127) y_dz (by rw [La_, Lm_, h.high, ar, ar]; omega), aZ (A := m.high.map (.int .u8)) (B := [acc]) (vs := [x]) (o := 127) (n := 0) (by rw [Lm_, h.high]) (av 1)]
 rfl
end
def rO (A : Ad) (m : Mm) (H : aC) : Prop := ∃ va Ga, Vec 298 3 va m.acc.length (aF cAc m.acc) Ga ∧ H = Ga ++ [(A.mb, blk (cMm A va m) 156), (A.ub, blk (cU m.u) 247), (A.rb, blk (m.ram.map (.int .u8) ++ A.rs) 5), (A.ob, blk (m.rom.map (.int .u8) ++ A.sp) 5)]
def eG (b : Bool) : Int := if b = true then 1 else 0
def r4 (u : PU) : AB := u.R.set 4 u.line
def aA1 (u : PU) : AB := (r4 u).take 6 ++ (r4 u).drop 7
def mM (u : PU) : AB := [u.dot, u.own % 256, u.frames % 256, u.frames / 256, eG u.sig]
def qF (u : PU) : AB := u.V ++ u.O ++ aA1 u ++ mM u
def eH (u : PU) : AB := qF u ++ u.P
structure Sg where
 a : AC
 c : Nat
 l : AB
def cSg (s : Sg) : AA := [.slice s.a s.l.length s.c]
def cSg_len (s : Sg) : (cSg s).length = 1 := rfl
def kX (l : List Sg) : AB := l.flatMap (·.l)
def aD3 (l : List Sg) (i : Nat) {s : Sg} (h : l[i]? = some s) : kX (l.take (i + 1)) = kX (l.take i) ++ s.l := by
 rw [zJ h]; simp [kX]
def aDL (l : List Sg) (i : Nat) : (kX (l.take i)).length ≤ (kX l).length := by
 conv => rhs; rw [← df i l]
 simp only [kX, List.flatMap_append, La_]; omega
section
variable {u : PU}
def r4_len (h : u.Wf) : (r4 u).length = 12 := by simp [r4, h.lR]
def aEc (h : u.Wf) : (aA1 u).length = 11 := by simp [aA1, r4_len h]
def aAK (h : u.Wf) : (qF u).length = 8368 := by simp [qF, aEc h, mM, h.lV, h.lO]
def yM (h : u.Wf) : (eH u).length = 31408 := by simp [eH, aAK h, h.lP]
def wB (u : PU) (b b3 : Nat) : List Sg := [⟨some ⟨b, 0, none⟩, 8192, u.V⟩, ⟨some ⟨b, 8192, none⟩, 160, u.O⟩, ⟨some ⟨b3, 0, none⟩, 12, (r4 u).take 6⟩, ⟨some ⟨b3, 7, none⟩, 5, (r4 u).drop 7⟩]
def aEA (u : PU) (b b3 : Nat) : kX (wB u b b3) = u.V ++ u.O ++ aA1 u := by simp [kX, wB, aA1]
def aEh (h : u.Wf) (b b3 : Nat) : (kX (wB u b b3)).length = 8363 := by rw [aEA]; simp [aEc h, h.lV, h.lO]
def aMF {w : AI} {b off : Nat} {l : AB} (h : Row w b off (l.map (.int .u8))) (n : Nat) : Row w b off ((l.take n).map (.int .u8)) := fun j v hv => h j v (by
 rw [cq, d8] at hv
 split at hv
 ·rw [cq]; exact hv
 ·simp at hv)
def aKd {w : AI} {b off : Nat} {l : AB} (h : Row w b off (l.map (.int .u8))) (n : Nat) : Row w b (off + n) ((l.drop n).map (.int .u8)) := fun j v hv => by
 have := h (n + j) v (by
  rw [cq, dp] at hv
  rw [cq]; exact hv)
 rwa [← dt] at this
def aO9 (h : u.Wf) {w : AI} {b b3 : Nat} (hr : Row w b 0 (cU u)) (h3 : Row w b3 0 ((r4 u).map (.int .u8))) : ∀ s ∈ wB u b b3, Ns w .u8 s.a s.l ∧ s.l.length ≤ s.c := by
 intro s hs
 simp only [wB, d6, dz, or_false] at hs
 rcases hs with rfl | rfl | rfl | rfl
 ·exact ⟨Ns.of (rowV hr), by rw [h.lV]; exact av _⟩
 ·exact ⟨Ns.of (rowO h hr), by rw [h.lO]; exact av _⟩
 ·exact ⟨Ns.of (aMF h3 6), by simp [r4_len h]⟩
 ·exact ⟨Ns.of (by simpa using aKd h3 7), by simp [r4_len h]⟩
def aUM (h : u.Wf) {w : AI} {b : Nat} (hr : Row w b 0 (cU u)) {i : Nat} (_hi : i < 144) : Row w b (8369 + i * 160) (((u.P.drop (i * 160)).take 160).map (.int .u8)) := fun j v hv => by
 have := aUV h hr (i * 160 + j) v (by
  rw [cq] at hv ⊢
  rw [d8] at hv
  split at hv
  ·rw [dp] at hv; exact hv
  ·simp at hv)
 rw [dt]; exact this
def aAA (l : AB) (i : Nat) : l.take (i * 160) ++ (l.drop (i * 160)).take 160 = l.take ((i + 1) * 160) := by
 rw [i5, Nat.one_mul, ie]
end
def lM (l : AB) : AB := ((l.drop 8352).take 6 ++ 0 :: (l.drop 8358).take 5).set 4 0
def tE (l : AB) : PU := ⟨l.take 8192, (l.drop 8192).take 160, lM l, l.getD 8356 0, l.getD 8363 0, l.getD 8364 0, l.getD 8365 0 + 256 * l.getD 8366 0, l.getD 8367 0 == 1, l.drop 8368⟩
def okE (l : AB) : Bool := decide (l.getD 8356 0 < 154) && decide (l.getD 8363 0 < 114) && (hQ .u8 (l.getD 8353 0) 120 == 0) && decide (l.getD 8367 0 ≤ 1) && (l.drop 8368).all (fun x => decide (x ≤ 3))
def jW (l : AB) : Int := if l.length ≠ 31408 then 6 else if okE l = true then 0 else 5
def gU (u : PU) (l : AB) : PU := if jW l = 0 then tE l else u
def dgt (x : Int) (i : Nat) : Int := x / 256 ^ i % 256
def dE (n : Nat) (x : Int) : AB := (List.range n).map (dgt x)
def val (l : AB) : Nat → Int
 | 0 => 0
 | i + 1 => val l i + l.getD i 0 * 256 ^ i
def rG (n : Nat) (x : Int) : (dE n x).length = n := by simp [dE]
def aKw (x : Int) (i : Nat) : 0 ≤ dgt x i ∧ dgt x i < 256 := ⟨et _ y_b, fh _ y_b⟩
def iQ (n : Nat) (x : Int) : aT (dE n x) := fun y hy => by
 simp only [dE, iv, gd] at hy
 obtain ⟨i, _, rfl⟩ := hy
 exact aKw x i
def aED (n : Nat) (x : Int) : dE (n + 1) x = dE n x ++ [dgt x n] := by simp [dE, d7]
def aJI (i : Nat) : (0 : Int) < 256 ^ i := f8 y_b
def val_ok {l : AB} (h : aT l) : ∀ i, 0 ≤ val l i ∧ val l i < 256 ^ i
 | 0 => by simp [val]
 | i + 1 => by
  have h1 := val_ok h i
  have h2 := h.get i
  have hp := aJI i
  have h3 : l.getD i 0 * 256 ^ i ≤ 255 * 256 ^ i := i2 o_m o_m
  have h4 : 0 ≤ l.getD i 0 * 256 ^ i := Int.mul_nonneg h2.1 o_m
  have h5 : (256 : Int) ^ (i + 1) = 256 ^ i * 256 := Int.pow_succ ..
  unfold val
  rw [h5]
  constructor <;> omega
def aEE {l m : AB} : ∀ n, (∀ j, j < n → l.getD j 0 = m.getD j 0) → val l n = val m n
 | 0, _ => rfl
 | n + 1, h => by unfold val; rw [aEE n fun j hj => h j o_m, h n o_m]
def aK7 {n i : Nat} (h : i < n) (x : Int) : (dE n x).getD i 0 = dgt x i := by
 unfold dE; rw [Gd_, cq, gq h]; rfl
def aFF (x : Int) : ∀ n m, n ≤ m → val (dE m x) n = x % 256 ^ n
 | 0, _, _ => by show (0 : Int) = x % 1; omega
 | n + 1, m, h => by
  show val (dE m x) n + (dE m x).getD n 0 * 256 ^ n = _
  rw [aFF x n m o_m, aK7 o_m, Int.pow_succ]
  unfold dgt
  have hp := aJI n
  have e1 := il x (256 ^ n)
  have e2 := il (x / 256 ^ n) 256
  have e3 : x / (256 ^ n * 256) = x / 256 ^ n / 256 := (Int.ediv_ediv_of_nonneg o_m).symm
  have e4 := il x (256 ^ n * 256)
  rw [e3] at e4
  have e5 : 256 ^ n * 256 * (x / 256 ^ n / 256) = 256 ^ n * (256 * (x / 256 ^ n / 256)) := Int.mul_assoc ..
  have e6 : 256 ^ n * (x / 256 ^ n) = 256 ^ n * (x / 256 ^ n % 256) + 256 ^ n * (256 * (x / 256 ^ n / 256)) := by rw [← Int.mul_add, e2]
  have e7 : x / 256 ^ n % 256 * 256 ^ n = 256 ^ n * (x / 256 ^ n % 256) := Int.mul_comm ..
  omega
def aBh {a b : Nat} (h : a ≤ b) : (256 : Int) ^ a ≤ 256 ^ b := by
 have h1 := fq (n := 256) y_b h
 have h2 : ((256 ^ a : Nat) : Int) ≤ ((256 ^ b : Nat) : Int) := by omega
 simpa using h2
def aSi {b y : Int} {i : Nat} (hi : i < 8) (hy : y = ((8 * i : Nat) : Int)) (hb : 0 ≤ b ∧ b < 256) : shl .u64 b y = b * 256 ^ i := by
 subst hy
 have h : (2 : Int) ^ min (((8 * i : Nat) : Int)).toNat IntKind.u64.bits = 256 ^ i := by
  rcases (show i = 0 ∨ i = 1 ∨ i = 2 ∨ i = 3 ∨ i = 4 ∨ i = 5 ∨ i = 6 ∨ i = 7 by omega) with rfl | rfl | rfl | rfl | rfl | rfl | rfl | rfl <;> decide
 have h1 := aJI i
 have h2 := aBh (show i ≤ 7 by omega)
 have h3 : b * 256 ^ i ≤ 255 * 256 ^ i := i2 o_m o_m
 have h4 : 0 ≤ b * 256 ^ i := Int.mul_nonneg hb.1 o_m
 rw [sN _ h, aBQ]
 exact Int.emod_eq_of_lt h4 o_m
def aSF {x y : Int} {i : Nat} (hi : i < 8) (hy : y = ((8 * i : Nat) : Int)) : IntKind.u8.wrap (shr .u64 x y) = dgt x i := by
 subst hy
 rw [fL]
 unfold dgt shr
 have hp := aJI i
 rw [ec _ (jp (f8 y_b))]
 rcases (show i = 0 ∨ i = 1 ∨ i = 2 ∨ i = 3 ∨ i = 4 ∨ i = 5 ∨ i = 6 ∨ i = 7 by omega) with rfl | rfl | rfl | rfl | rfl | rfl | rfl | rfl
 all_goals rfl
def aTm {A b y : Int} {i : Nat} (hi : i < 8) (hy : y = ((8 * i : Nat) : Int)) (hA : 0 ≤ A ∧ A < 256 ^ i) (hb : 0 ≤ b ∧ b < 256) : bor .u64 A (shl .u64 b y) = A + b * 256 ^ i := by
 rw [aSi hi hy hb]
 have key : ∀ k : Nat, (256 : Int) ^ i = ((2 ^ k : Nat) : Int) → k ≤ 56 → bor .u64 A (b * 256 ^ i) = A + b * 256 ^ i := by
  intro k hk hk2
  have hle : 2 ^ k ≤ 2 ^ 56 := fq y_b hk2
  have hpos : 0 < 2 ^ k := ib y_b
  rw [hk] at hA ⊢
  obtain ⟨a, rfl⟩ : ∃ a : Nat, A = a := ⟨A.toNat, y_y⟩
  obtain ⟨n, rfl⟩ : ∃ n : Nat, b = n := ⟨b.toNat, y_y⟩
  have h1 : n * 2 ^ k ≤ 255 * 2 ^ k := fo _ o_m
  have h2 : a < 2 ^ k := by omega
  have e1 : ((n : Int) * ((2 ^ k : Nat) : Int)) = ((n * 2 ^ k : Nat) : Int) := (ju ..).symm
  rw [e1, aDF o_m (by show (a : Int) < 18446744073709551616; omega) o_m (by show ((n * 2 ^ k : Nat) : Int) < 18446744073709551616; omega)]
  have e2 : a ||| n * 2 ^ k = n * 2 ^ k + a := by rw [jz, fx]; exact (fe h2 n).symm
  rw [co, co, e2]
  omega
 rcases (show i = 0 ∨ i = 1 ∨ i = 2 ∨ i = 3 ∨ i = 4 ∨ i = 5 ∨ i = 6 ∨ i = 7 by omega) with rfl | rfl | rfl | rfl | rfl | rfl | rfl | rfl
 ·exact key 0 rfl y_b
 ·exact key 8 rfl y_b
 ·exact key 16 rfl y_b
 ·exact key 24 rfl y_b
 ·exact key 32 rfl y_b
 ·exact key 40 rfl y_b
 ·exact key 48 rfl y_b
 ·exact key 56 rfl y_b
inductive FK where
 | byte
 | word
 | bool
 | int (n : Nat)
 | long (n : Nat)
deriving DecidableEq
def FK.many : FK → Nat
 | .byte => 1
 | .word => 2
 | .bool => 1
 | .int n => n
 | .long n => n
def FK.cell : FK → Int → AH
 | .byte, x => .int .u8 x
 | .word, x => .int .u16 x
 | .bool, x => .bool (x == 1)
 | .int _, x => .int .i64 x
 | .long _, x => .int .u64 x
def FK.at (L : AA) (o : Nat) : Int := match L[o]? with
 | some (.int _ x) => x
 | some (.bool b) => if b = true then 1 else 0
 | _ => 0
def FK.ok : FK → Int → Prop
 | .byte, x => 0 ≤ x ∧ x < 256
 | .word, x => 0 ≤ x ∧ x < 65536
 | .bool, x => x = 0 ∨ x = 1
 | .int _, x => -9223372036854775808 ≤ x ∧ x ≤ 9223372036854775807
 | .long _, x => 0 ≤ x ∧ x < 18446744073709551616
def Fit (k : FK) (L : AA) (o : Nat) : Prop := ∃ x, L[o]? = some (k.cell x) ∧ k.ok x
abbrev Ps := AA × AB
def pass1 (r : Bool) (k : FK) (s : Ps) (o : Nat) : Ps :=
 if r = true then (aO s.1 o [k.cell (val s.2 k.many)], s.2.drop k.many) else (s.1, s.2 ++ dE k.many (FK.at s.1 o))
def aI (r : Bool) (k : FK) (os : AE) (s : Ps) : Ps := os.foldl (pass1 r k) s
def passes_snoc {r : Bool} {k : FK} {os : AE} {s : Ps} {i o : Nat} (h : os[i]? = some o) : aI r k (os.take (i + 1)) s = pass1 r k (aI r k (os.take i) s) o := by
 unfold aI
 rw [eu, h, ia]
 rfl
def Fit.at {k : FK} {L : AA} {o : Nat} (h : Fit k L o) : L[o]? = some (k.cell (FK.at L o)) ∧ k.ok (FK.at L o) := by
 obtain ⟨x, hx, hk⟩ := h
 have : FK.at L o = x := by
  unfold FK.at; rw [hx]
  cases k <;> try rfl
  rcases hk with rfl | rfl <;> rfl
 rw [this]; exact ⟨hx, hk⟩
def Fit.lt {k : FK} {L : AA} {o : Nat} (h : Fit k L o) : o < L.length := by
 obtain ⟨x, hx, _⟩ := h
 exact (List.getElem?_eq_some_iff.1 hx).1
def uH {l : AA} {o j : Nat} {v : AH} (ho : o < l.length) : (aO l o [v])[j]? = if j = o then some v else l[j]? := by
 have e : aO l o [v] = l.set o v := by
  unfold aO
  rw [dg, if_pos ho, As_]; rfl
 rw [e, fk]
 split
 ·rename_i h; subst h; rw [if_pos rfl]
 ·rename_i h; rw [if_neg (Ne.symm h)]
def Fit.put {k k' : FK} {L : AA} {o o' : Nat} {x : Int} (h : Fit k L o) (h' : Fit k' L o') (hx : k'.ok x) (hk : o = o' → k = k') : Fit k (aO L o' [k'.cell x]) o := by
 by_cases ho : o = o'
 ·subst ho; cases hk rfl
  exact ⟨x, by rw [uH h.lt, if_pos rfl], hx⟩
 ·obtain ⟨y, hy, hky⟩ := h
  exact ⟨y, by rw [uH h'.lt, if_neg ho]; exact hy, hky⟩
def FK.fits : FK → Prop
 | .int n => n ≤ 4
 | .long n => n ≤ 8
 | _ => True
def FK.val_ok {k : FK} (hk : k.fits) {l : AB} (h : aT l) : ∃ y, k.cell (val l k.many) = k.cell y ∧ k.ok y := by
 have hv := Go.Proofs.YtacejanlmhbddaaGreat.val_ok h k.many
 cases k with
 | byte => exact ⟨_, rfl, hv⟩
 | word => exact ⟨_, rfl, hv⟩
 | bool =>
  by_cases h1 : val l 1 = 1
  ·exact ⟨1, by show Value.bool (val l 1 == 1) = _; rw [h1]; rfl, .inr rfl⟩
  ·exact ⟨0, by show Value.bool (val l 1 == 1) = .bool (0 == 1); rw [show (val l 1 == 1) = false by simpa using h1]; rfl, .inl rfl⟩
 | int n =>
  have h4 := aBh (show n ≤ 4 from hk)
  exact ⟨_, rfl, by have := hv.1; show -9223372036854775808 ≤ val l n; simp only [FK.many] at this; omega, by have := hv.2; show val l n ≤ 9223372036854775807; simp only [FK.many] at this; omega⟩
 | long n =>
  have h8 := aBh (show n ≤ 8 from hk)
  exact ⟨_, rfl, hv.1, by have := hv.2; show val l n < 18446744073709551616; simp only [FK.many] at this; omega⟩
def gE {a b : AB} (ha : aT a) (hb : aT b) : aT (a ++ b) := fun x hx => (List.mem_append.1 hx).elim (ha x) (hb x)
def iS {a : AB} (h : aT a) (n : Nat) : aT (a.drop n) := fun x hx => h x (da hx)
def pK {a : AB} (h : aT a) (n : Nat) : aT (a.take n) := fun x hx => h x (cu hx)
section
variable {r : Bool} {k : FK} {s : Ps}
def yX (h : aT s.2) (o : Nat) : aT (pass1 r k s o).2 := by
 unfold pass1
 split
 ·exact iS h _
 ·exact gE h (iQ _ _)
def wR : ∀ {os : AE} {s : Ps}, aT s.2 → aT (aI r k os s).2
 | [], _, h => h
 | o :: os, _, h => wR (os := os) (yX h o)
def aGN (r : Bool) (n : Nat) (m : Nat) : Nat := if r = true then m - n else m + n
def xY : ∀ {os : AE} {s : Ps}, (aI r k os s).2.length = aGN r (os.length * k.many) s.2.length
 | [], s => by unfold aGN; simp [aI]
 | o :: os, s => by
  show (aI r k os (pass1 r k s o)).2.length = _
  rw [xY]
  unfold pass1 aGN
  rw [Lc_, jq]
  cases r
  ·simp [rG]; omega
  ·simp; omega
def aEy (hf : k.fits) (hb : aT s.2) {o : Nat} (ho : Fit k s.1 o) {k' : FK} {o' : Nat} (h : Fit k' s.1 o') (hk : o' = o → k' = k) : Fit k' (pass1 r k s o).1 o' := by
 unfold pass1
 split
 ·obtain ⟨y, hy, hok⟩ := FK.val_ok hf hb
  show Fit k' (aO s.1 o [k.cell (val s.2 k.many)]) o'
  rw [hy]
  exact h.put ho hok hk
 ·exact h
def tK (hf : k.fits) {k' : FK} {o' : Nat} : ∀ {os : AE} {s : Ps}, aT s.2 → (∀ o ∈ os, Fit k s.1 o) → Fit k' s.1 o' → (o' ∈ os → k' = k) → Fit k' (aI r k os s).1 o'
 | [], _, _, _, h, _ => h
 | o :: os, s, hb, hs, h, hk => by
  show Fit k' (aI r k os (pass1 r k s o)).1 o'
  have ho := hs o (.head _)
  exact tK hf (yX hb o) (fun x hx => aEy hf hb ho (hs x (.tail _ hx)) (fun _ => rfl)) (aEy hf hb ho h (fun e => hk (e ▸ .head _))) (fun hx => hk (.tail _ hx))
def aAk {l : AA} {o : Nat} {v : AH} (h : o < l.length) : (aO l o [v]).length = l.length := lK y_cI
def aIV (a b : AE) : aI r k (a ++ b) s = aI r k b (aI r k a s) := ia ..
end
def goes (r : Bool) (n : Nat) (x : Int) (bs : AB) : Int × AB := if r = true then (val bs n, bs.drop n) else (x, bs ++ dE n x)
def aJ5 {L : AA} {o : Nat} {v : AH} (h : L[o]? = some v) : aO L o [v] = L := by
 have ho := (List.getElem?_eq_some_iff.1 h).1
 refine List.ext_getElem? fun j => ?_
 rw [uH ho]
 split
 ·rename_i e; subst e; exact h.symm
 ·rfl
def pass1_goes {k : FK} {s : Ps} {o : Nat} (h : Fit k s.1 o) (r : Bool) : pass1 r k s o = (aO s.1 o [k.cell (goes r k.many (FK.at s.1 o) s.2).1], (goes r k.many (FK.at s.1 o) s.2).2) := by
 unfold pass1 goes
 cases r
 ·show (s.1, _) = (aO s.1 o [k.cell (FK.at s.1 o)], _); rw [aJ5 h.at.1]; rfl
 ·rfl
def aH1 {r : Bool} {n : Nat} {x : Int} {bs : AB} (hx : 0 ≤ x ∧ x < 256 ^ n) (hb : aT bs) : 0 ≤ (goes r n x bs).1 ∧ (goes r n x bs).1 < 256 ^ n := by
 unfold goes; split
 ·exact Go.Proofs.YtacejanlmhbddaaGreat.val_ok hb n
 ·exact hx
def aQJ {x : Int} {i : Nat} (hi : i < 8) : dgt (x % 18446744073709551616) i = dgt x i := by
 unfold dgt
 rcases (show i = 0 ∨ i = 1 ∨ i = 2 ∨ i = 3 ∨ i = 4 ∨ i = 5 ∨ i = 6 ∨ i = 7 by omega) with rfl | rfl | rfl | rfl | rfl | rfl | rfl | rfl
 all_goals omega
def aNq {x : Int} {n : Nat} (hn : n ≤ 8) : dE n (x % 18446744073709551616) = dE n x := by
 unfold dE
 refine List.map_congr_left fun i hi => aQJ ?_
 have := List.mem_range.1 hi; omega
def aGe {r : Bool} {n : Nat} {x : Int} {bs : AB} (hn : n ≤ 4) (hx : -9223372036854775808 ≤ x ∧ x ≤ 9223372036854775807) (hb : aT bs) :
  IntKind.i64.wrap (goes r n (x % 18446744073709551616) bs).1 = (goes r n x bs).1 ∧ (goes r n (x % 18446744073709551616) bs).2 = (goes r n x bs).2 := by
 unfold goes
 cases r
 ·exact ⟨by show IntKind.i64.wrap (x % 18446744073709551616) = x; rw [aBd]; omega, by show bs ++ dE n _ = bs ++ dE n _; rw [aNq o_m]⟩
 ·have hv := Go.Proofs.YtacejanlmhbddaaGreat.val_ok hb n
  have h4 := aBh hn
  exact ⟨by show IntKind.i64.wrap (val bs n) = val bs n; rw [aL o_m o_m], rfl⟩
def sE (ty : Nat → Option FK) (L : AA) : Prop := ∀ o k, ty o = some k → Fit k L o
structure fG (r : Bool) (n : Nat) (s : Ps) : Prop where
 byts : aT s.2
 en : r = true → n ≤ s.2.length
 sz : s.2.length + n ≤ 1000000
def fG.pass {r : Bool} {k : FK} {os : AE} {n : Nat} {s : Ps} (h : fG r (os.length * k.many + n) s) : fG r n (aI r k os s) := by
 have h1 := h.sz
 refine ⟨wR h.byts, fun hr => ?_, ?_⟩
 ·have h2 := h.en hr
  rw [xY]; unfold aGN; rw [if_pos hr]; omega
 ·rw [xY]; unfold aGN; split <;> omega
def fG.le {r : Bool} {n m : Nat} {s : Ps} (h : fG r n s) (hm : m ≤ n) : fG r m s := ⟨h.byts, fun hr => gv hm (h.en hr), by have := h.sz; omega⟩
def sE.pass {ty : Nat → Option FK} {r : Bool} {k : FK} {os : AE} {s : Ps} (h : sE ty s.1) (hf : k.fits) (hb : aT s.2) (ho : ∀ o ∈ os, ty o = some k) : sE ty (aI r k os s).1 := fun o' k' h' =>
 tK hf hb (fun o hx => h o k (ho o hx)) (h o' k' h') fun hx => by rw [ho o' hx] at h'; exact (ag h').symm
def fG.at {r : Bool} {k : FK} {os : AE} {s : Ps} {i : Nat} (h : fG r (os.length * k.many) s) (hi : i < os.length) : fG r k.many (aI r k (os.take i) s) := by
 have h1 : i * k.many + k.many ≤ os.length * k.many := by rw [← jq]; exact fo _ hi
 exact fG.pass (h.le (by rw [Lt_, eq o_m]; exact h1))
def oJ {r : Bool} {k : FK} {os : AE} {s : Ps} {i o : Nat} (hk : k.fits) (hb : aT s.2) (hos : ∀ o ∈ os, Fit k s.1 o) (ho : os[i]? = some o) : Fit k (aI r k (os.take i) s).1 o :=
 tK hk hb (fun x hx => hos x (cu hx)) (hos o (bq ho)) (fun _ => rfl)
def bY (o n : Nat) : AE := (List.range n).map (o + ·)
def tX (o n : Nat) : (bY o n).length = n := by simp [bY]
def aCc {o n x : Nat} (h : x ∈ bY o n) : ∃ i, i < n ∧ x = o + i := by
 simp only [bY, iv, gd] at h
 obtain ⟨i, h1, h2⟩ := h
 exact ⟨i, h1, h2.symm⟩
def uS {o n i : Nat} (h : i < n) : o + i ∈ bY o n := by
 simp only [bY, iv, gd]
 exact ⟨i, h, rfl⟩
def aBy (r : Bool) (k : FK) (o i : Nat) (s : Ps) : aI r k (bY o (i + 1)) s = aI r k [o + i] (aI r k (bY o i) s) := by
 unfold bY
 rw [d7, be, aIV]; rfl
def LineB (T : Nat) (r : Bool) (va : AH) (bs : AB) (G : aC) : Prop :=
 if r = true then ∃ (cb off c : Nat) (all : AA), va = .slice (some ⟨cb, off, none⟩) bs.length c ∧ bs.length ≤ c ∧ G = [(cb, blk all T)] ∧ ∀ j v, (bs.map U_)[j]? = some v → all[off + j]? = some v
 else Vec T 1 va bs.length (bs.map (.int .u8)) G
def LineB.read {T : Nat} {va : AH} {bs : AB} {G : aC} (h : LineB T true va bs G) : ∃ (cb off c : Nat) (all : AA), va = .slice (some ⟨cb, off, none⟩) bs.length c ∧ bs.length ≤ c ∧ G = [(cb, blk all T)] ∧ ∀ j v, (bs.map U_)[j]? = some v → all[off + j]? = some v := h
def LineB.write {T : Nat} {va : AH} {bs : AB} {G : aC} (h : LineB T false va bs G) : Vec T 1 va bs.length (bs.map (.int .u8)) G := h
def LineB.cut {T cb off c n : Nat} {bs : AB} {all : AA} (hle : bs.length ≤ c) (hn : n ≤ bs.length) (hall : ∀ j v, (bs.map U_)[j]? = some v → all[off + j]? = some v) :
  LineB T true (.slice (some ⟨cb, cut1 off n c, none⟩) (bs.length - n) (c - n)) (bs.drop n) [(cb, blk all T)] := by
 refine ⟨cb, cut1 off n c, c - n, all, by rw [Ld_], by rw [Ld_]; omega, rfl, fun j v hv => ?_⟩
 rw [go, dp] at hv
 by_cases hc : c = n
 ·rw [dm (by rw [Lm_]; omega)] at hv; cases hv
 ·rw [jK hc, dt]; exact hall _ _ hv
def aGQ (b : Nat) (o : Nat) : AA := [.pointer (some ⟨b, o, none⟩)]
def cPtr_len (b o : Nat) : (aGQ b o).length = 1 := rfl
def St.apartT {w0 w : AI} {ms : AE} {A : aC} {x : Nat × Obj} {G : aC} (hw : St w0 ms (A ++ ([x] ++ G)) w) : x.1 ∉ A.map (·.1) := fun hx => by
 have h := hw.nodup
 rw [be, dd] at h
 exact h.2.2 _ hx _ y_r rfl
def tyM (o : Nat) : Option FK :=
 if o < 8 then some .byte else if o < 10 then some .word else if o < 14 then some .bool else if o < 17 then none else if o < 19 then some .bool else if o < 21 then some (.int 2) else if o < 25 then some .byte
 else if o < 26 then some (.int 2) else if o < 27 then some (.int 4) else if o < 29 then some .bool else if o < 34 then some .byte else if o < 35 then some .word else if o < 38 then some .byte else if o < 39 then some .bool
 else if o < 44 then some .byte else if o < 47 then some (.int 2) else if o < 48 then some .byte else if o < 49 then some (.int 2) else if o < 97 then some .byte else if o < 98 then some .bool else if o < 100 then some (.int 2)
 else if o < 116 then (if o % 4 = 0 then some .bool else some (.int 2)) else if o < 118 then some (.int 2) else if o < 119 then some .bool else if o < 121 then some .byte else if o < 123 then some (.long 8) else if o < 135 then none
 else if o < 8454 then some .byte else none
def gA : AE := [0, 1, 2, 3, 4, 5, 6, 7, 119, 120, 21, 39, 40, 47]
def gW : AE := [8, 9, 34]
def gB : AE := [10, 11, 12, 13, 17, 18, 38, 27, 28]
def gI : AE := [19, 20, 25, 44, 45, 46, 48]
def gC : AE := [22, 23, 24, 35, 36, 37, 41, 42, 43]
def lG (r : Bool) (s : Ps) : Nat → Ps
 | 0 => s
 | i + 1 => aI r (.int 2) [101 + 4 * i, 102 + 4 * i, 103 + 4 * i] (aI r .bool [100 + 4 * i] (lG r s i))
def oE (r : Bool) (s : Ps) : Ps := lG r (aI r (.int 2) [98, 99, 116, 117] (aI r .bool [97, 118] (aI r .byte (bY 49 48) s))) 4
def yP (r : Bool) (s : Ps) : Ps :=
 aI r .byte gC (aI r (.int 4) [26] (aI r (.int 2) gI (pass1 r (.long 8) (pass1 r (.long 8) (aI r .bool gB (aI r .word gW (aI r .byte gA s))) 121) 122)))
def qH (r : Bool) (s : Ps) : Ps := aI r .byte (bY 8327 127) (aI r .byte (bY 135 8192) (oE r (aI r .byte (bY 29 5) (yP r s))))
def aGj {α : Type} (G : List α) (x y : α) : ((G ++ [x]) ++ [y]).Perm ((G ++ [y]) ++ [x]) := by
 rw [As_, As_]
 exact List.Perm.append_left _ (List.Perm.swap _ _ _)
def aMZ : ∀ o ∈ gA, tyM o = some .byte := by decide
def aOt : ∀ o ∈ gW, tyM o = some .word := by decide
def aNS : ∀ o ∈ gB, tyM o = some .bool := by decide
def aOk : ∀ o ∈ gI, tyM o = some (.int 2) := by decide
def aMR : ∀ o ∈ gC, tyM o = some .byte := by decide
def aDD {a n : Nat} (h : ∀ i, i < n → tyM (a + i) = some .byte) : ∀ o ∈ bY a n, tyM o = some .byte := fun o ho => by
 obtain ⟨i, hi, rfl⟩ := aCc ho
 exact h i hi
def aDz : ∀ o ∈ bY 29 5, tyM o = some .byte := by decide
def xH : ∀ o ∈ bY 49 48, tyM o = some .byte := aDD fun i hi => by
 have key : ∀ k : Fin 48, tyM (49 + k.val) = some .byte := by decide
 exact key ⟨i, hi⟩
def aBg : ∀ o ∈ bY 135 8192, tyM o = some .byte := aDD fun i hi => by unfold tyM; repeat (first | rw [if_neg o_m] | rw [if_pos o_m])
def aA9 : ∀ o ∈ bY 8327 127, tyM o = some .byte := aDD fun i hi => by unfold tyM; repeat (first | rw [if_neg o_m] | rw [if_pos o_m])
structure fC (r : Bool) (n : Nat) (s : Ps) : Prop where
 ty : sE tyM s.1
 ok : fG r n s
section
variable {r : Bool} {s : Ps} {n : Nat}
def fC.pass {k : FK} {os : AE} (h : fC r (os.length * k.many + n) s) (hk : k.fits) (ho : ∀ o ∈ os, tyM o = some k) : fC r n (aI r k os s) := ⟨h.ty.pass hk h.ok.byts ho, h.ok.pass⟩
def fC.fit {k : FK} {os : AE} (h : fC r n s) (ho : ∀ o ∈ os, tyM o = some k) : ∀ o ∈ os, Fit k s.1 o := fun o hx => h.ty o k (ho o hx)
def fC.le {m : Nat} (h : fC r n s) (hm : m ≤ n) : fC r m s := ⟨h.ty, h.ok.le hm⟩
def fC.one {k : FK} {o : Nat} (h : fC r (k.many + n) s) (hk : k.fits) (ho : tyM o = some k) : fC r n (pass1 r k s o) :=
 fC.pass (os := [o]) (k := k) (h.le y_r) hk y_dB
def aE5 {i : Nat} (hi : i < 4) : ∀ o ∈ [100 + 4 * i], tyM o = some .bool := by
 rcases (show i = 0 ∨ i = 1 ∨ i = 2 ∨ i = 3 by omega) with rfl | rfl | rfl | rfl <;> decide
def aEW {i : Nat} (hi : i < 4) : ∀ o ∈ [101 + 4 * i, 102 + 4 * i, 103 + 4 * i], tyM o = some (.int 2) := by
 rcases (show i = 0 ∨ i = 1 ∨ i = 2 ∨ i = 3 by omega) with rfl | rfl | rfl | rfl <;> decide
def fC.voices (h : fC r (28 + n) s) : ∀ i, i ≤ 4 → fC r (7 * (4 - i) + n) (lG r s i)
 | 0, _ => h
 | i + 1, hi => ((((h.voices i o_m).le (m := 1 + (6 + (7 * (4 - (i + 1)) + n))) o_m).pass (k := .bool) (os := [100 + 4 * i]) trivial (aE5 o_m)).pass (k := .int 2) (os := [101 + 4 * i, 102 + 4 * i, 103 + 4 * i]) (show 2 ≤ 4 by decide) (aEW o_m))
def fC.board (h : fC r (86 + n) s) : fC r n (oE r s) := by
 have h1 := (h.le (m := 48 * 1 + (38 + n)) o_m).pass (k := .byte) (os := bY 49 48) trivial xH
 have h2 := (h1.le (m := 2 + (36 + n)) o_m).pass (k := .bool) (os := [97, 118]) trivial (show ∀ o ∈ [97, 118], tyM o = some .bool by decide)
 have h3 := (h2.le (m := 8 + (28 + n)) o_m).pass (k := .int 2) (os := [98, 99, 116, 117]) (show 2 ≤ 4 by decide) (show ∀ o ∈ [98, 99, 116, 117], tyM o = some (.int 2) by decide)
 exact (h3.voices 4 y_b).le o_m
def aLW {k : FK} {o j : Nat} (h : Fit k s.1 o) (hj : j ≠ o) : (pass1 r k s o).1[j]? = s.1[j]? := by
 unfold pass1
 split
 ·show (aO s.1 o _)[j]? = _; rw [uH h.lt, if_neg hj]
 ·rfl
def aCo {k : FK} {j : Nat} (hk : k.fits) (hj : tyM j = none) : ∀ {os : AE} {s : Ps}, sE tyM s.1 → aT s.2 → (∀ o ∈ os, tyM o = some k) → (aI r k os s).1[j]? = s.1[j]?
 | [], _, _, _, _ => rfl
 | o :: os, s, h, hb, ho => by
  show (aI r k os (pass1 r k s o)).1[j]? = _
  have h1 : sE tyM (pass1 r k s o).1 := sE.pass (os := [o]) (k := k) h hk hb (by intro x hx; rw [List.mem_singleton.1 hx]; exact ho o (.head _))
  rw [aCo hk hj h1 (yX hb o) (fun x hx => ho x (.tail _ hx)), aLW (h o k (ho o (.head _))) (by rintro rfl; rw [ho j (.head _)] at hj; cases hj)]
structure qC (j : Nat) (s s' : Ps) : Prop where
 ty : sE tyM s'.1
 byts : aT s'.2
 at_ : s'.1[j]? = s.1[j]?
def qC.pass {j : Nat} {s' : Ps} (h : qC j s s') (hj : tyM j = none) {k : FK} {os : AE} (hk : k.fits) (ho : ∀ o ∈ os, tyM o = some k) : qC j s (aI r k os s') := ⟨h.ty.pass hk h.byts ho, wR h.byts, (aCo hk hj h.ty h.byts ho).trans h.at_⟩
def qC.one {j : Nat} {s' : Ps} (h : qC j s s') (hj : tyM j = none) {k : FK} {o : Nat} (hk : k.fits) (ho : tyM o = some k) : qC j s (pass1 r k s' o) := h.pass (os := [o]) hj hk y_dB
def qC.voices {j : Nat} {s' : Ps} (h : qC j s s') (hj : tyM j = none) : ∀ i, i ≤ 4 → qC j s (lG r s' i)
 | 0, _ => h
 | i + 1, hi => ((h.voices hj i o_m).pass hj (k := .bool) trivial (aE5 o_m)).pass hj (k := .int 2) (show 2 ≤ 4 by decide) (aEW o_m)
def qC.all {j : Nat} (h : qC j s s) (hj : tyM j = none) : qC j s (qH r s) := by
 have h8 : qC j s (yP r s) := (((((((h.pass hj (k := .byte) trivial aMZ).pass hj (k := .word) trivial aOt).pass hj (k := .bool) trivial aNS).one hj (k := .long 8) (o := 121) (show 8 ≤ 8 by decide) y_b).one hj (k := .long 8) (o := 122) (show 8 ≤ 8 by decide) y_b).pass hj (k := .int 2) (show 2 ≤ 4 by decide) aOk).pass hj (k := .int 4) (show 4 ≤ 4 by decide) (show ∀ o ∈ [26], tyM o = some (.int 4) by decide)).pass hj (k := .byte) trivial aMR
 have h9 := (((h8.pass hj (r := r) (k := .byte) trivial aDz).pass hj (r := r) (k := .byte) trivial xH).pass hj (r := r) (k := .bool) (os := [97, 118]) trivial y_b).pass hj (r := r) (k := .int 2) (os := [98, 99, 116, 117]) (show 2 ≤ 4 by decide) y_b
 exact ((h9.voices hj 4 y_b).pass hj (k := .byte) trivial aBg).pass hj (k := .byte) trivial aA9
def aLA (r : Bool) (s : Ps) {j : Nat} (hj : tyM j = none) (ht : sE tyM s.1) (hb : aT s.2) : (qH r s).1[j]? = s.1[j]? := (qC.all ⟨ht, hb, rfl⟩ hj).at_
end
def vt (bs : AB) (p n : Nat) : Int := val (bs.drop p) n
def bo (bs : AB) (p : Nat) : Bool := vt bs p 1 == 1
def dK (k : FK) : AE → AA → AB → Nat → AA
 | [], L, _, _ => L
 | o :: os, L, bs, p => dK k os (aO L o [k.cell (vt bs p k.many)]) bs (p + k.many)
def eE {k : FK} (bs : AB) : ∀ {os : AE} {L : AA} {p q : Nat}, q = p + os.length * k.many → aI true k os (L, bs.drop p) = (dK k os L bs p, bs.drop q)
 | [], L, p, q, h => by
  have : q = p := by simpa using h
  subst this; rfl
 | o :: os, L, p, q, h => by
  show aI true k os (aO L o [k.cell (val (bs.drop p) k.many)], (bs.drop p).drop k.many) = _
  rw [ax, eE bs (q := q) (by rw [h, Lc_, jq]; omega)]
  rfl
def aCC {o : Nat} (bs : AB) {L : AA} {p q : Nat} (h : q = p + 8) : pass1 true (.long 8) (L, bs.drop p) o = (dK (.long 8) [o] L bs p, bs.drop q) := by
 subst h
 show (aO L o _, (bs.drop p).drop 8) = _
 rw [ax]
 rfl
def aAW {k : FK} : ∀ {a b : AE} {L : AA} {bs : AB} {p : Nat}, dK k (a ++ b) L bs p = dK k b (dK k a L bs p) bs (p + a.length * k.many)
 | [], b, L, bs, p => by simp [dK]
 | o :: a, b, L, bs, p => by
  show dK k (a ++ b) _ bs (p + k.many) = dK k b (dK k a _ bs (p + k.many)) bs _
  rw [aAW, Lc_, jq, show p + k.many + a.length * k.many = p + (a.length * k.many + k.many) by omega]
def aBu {k : FK} {X : AA} {n : Nat} (hX : X.length = n) : ∀ {os : AE} {Y : AA} {bs : AB} {p : Nat}, (∀ o ∈ os, o < Y.length) → dK k (os.map (n + ·)) (X ++ Y) bs p = X ++ dK k os Y bs p
 | [], _, _, _, _ => rfl
 | o :: os, Y, bs, p, h => by
  have ho := h o (.head _)
  show dK k (os.map (n + ·)) (aO (X ++ Y) (n + o) _) bs (p + k.many) = X ++ dK k os (aO Y o _) bs (p + k.many)
  rw [aZ (n := o) (by rw [hX]) y_cI, aBu hX fun x hx => by rw [aAk ho]; exact h x (.tail _ hx)]
def xS {k : FK} {Y : AA} : ∀ {os : AE} {X : AA} {bs : AB} {p : Nat}, (∀ o ∈ os, o < X.length) → dK k os (X ++ Y) bs p = dK k os X bs p ++ Y
 | [], _, _, _, _ => rfl
 | o :: os, X, bs, p, h => by
  have ho := h o (.head _)
  show dK k os (aO (X ++ Y) o _) bs (p + k.many) = dK k os (aO X o _) bs (p + k.many) ++ Y
  rw [eA y_cI, xS fun x hx => by rw [aAk ho]; exact h x (.tail _ hx)]
def aSC (bs : AB) (p : Nat) : vt bs p 1 = bs.getD p 0 := by
 unfold vt val val
 rw [nD]
 simp
def aEv {X Y : AA} {n a : Nat} (hX : X.length = a) (bs : AB) (p : Nat) (hb : p + n ≤ bs.length) : ∀ {l : AB}, l.length = n → ∀ i, i ≤ n →
  dK .byte (bY a i) (X ++ (l.map (.int .u8) ++ Y)) bs p = X ++ ((((bs.drop p).take i) ++ l.drop i).map (.int .u8) ++ Y)
 | l, hl, 0, _ => by simp [bY, dK]
 | l, hl, i + 1, hi => by
  have hi' : i < l.length := by omega
  have e : bY a (i + 1) = bY a i ++ [a + i] := by unfold bY; rw [d7, be]; rfl
  rw [e, aAW, aEv hX bs p hb hl i o_m, tX]
  show aO _ (a + i) [.int .u8 (vt bs (p + i * 1) 1)] = _
  rw [ep, aSC, aZ (n := i) (by rw [hX]) y_dd, eA y_dd, jM .u8 (by simp only [La_, Lt_, Ld_]; omega)]
  have hlen : ((bs.drop p).take i).length = i := by simp only [Lt_, Ld_]; omega
  have e2 : (((bs.drop p).take i) ++ l.drop i).set i (bs.getD p.succ.pred.succ.pred 0) = (((bs.drop p).take i) ++ l.drop i).set i (bs.getD p 0) := rfl
  have e3 : (((bs.drop p).take i) ++ l.drop i).set i (bs.getD (p + i) 0) = (bs.drop p).take (i + 1) ++ l.drop (i + 1) := by
   rw [List.set_append_right _ _ o_m, hlen, iy, fu hi', ai, eu, dp, As_]
   rw [Gd_, ak o_m]
   rfl
  rw [e3]
def vF {X Y : AA} {n a : Nat} (hX : X.length = a) {bs : AB} {p : Nat} (hb : p + n ≤ bs.length) {l : AB} (hl : l.length = n) : dK .byte (bY a n) (X ++ (l.map (.int .u8) ++ Y)) bs p = X ++ (((bs.drop p).take n).map (.int .u8) ++ Y) := by
 rw [aEv hX bs p hb hl n (av _), show l.drop n = [] from dj o_m, bg]
def sA (bs : AB) (p : Nat) : List Vc := [⟨bo bs p, vt bs (p + 1) 2, vt bs (p + 3) 2, vt bs (p + 5) 2⟩, ⟨bo bs (p + 7), vt bs (p + 8) 2, vt bs (p + 10) 2, vt bs (p + 12) 2⟩, ⟨bo bs (p + 14), vt bs (p + 15) 2, vt bs (p + 17) 2, vt bs (p + 19) 2⟩, ⟨bo bs (p + 21), vt bs (p + 22) 2, vt bs (p + 24) 2, vt bs (p + 26) 2⟩]
def aA3 (bs : AB) : Bd := ⟨(bs.drop 77).take 48, bo bs 125, vt bs 127 2, vt bs 129 2, sA bs 135, vt bs 131 2, vt bs 133 2, bo bs 126⟩
def aOT (m : Mm) (bs : AB) : Mm := { m with
 cpu := ⟨⟨vt bs 0 1, vt bs 1 1, vt bs 2 1, vt bs 3 1, vt bs 4 1, vt bs 5 1, vt bs 6 1, vt bs 7 1, vt bs 14 2, vt bs 16 2⟩, bo bs 20, bo bs 21, bo bs 22, bo bs 23⟩,
 bk := { m.bk with last := vt bs 10 1, on := bo bs 24, mode := bo bs 25, low := vt bs 45 2, high := vt bs 47 2 },
 ck := ⟨vt bs 63 1, vt bs 64 1, vt bs 65 1, vt bs 49 2, vt bs 59 4, bo bs 27, bo bs 28, vt bs 72 1, vt bs 73 1, vt bs 74 1, vt bs 75 1, vt bs 76 1⟩,
 tm := ⟨vt bs 18 2, vt bs 66 1, vt bs 67 1, vt bs 68 1, bo bs 26⟩,
 pd := ⟨vt bs 11 1, vt bs 12 1⟩, pt := ⟨vt bs 69 1, vt bs 70 1, vt bs 71 1, vt bs 51 2, vt bs 53 2, vt bs 55 2⟩, cp := ⟨vt bs 13 1, vt bs 57 2⟩,
 flags := vt bs 8 1, lets := vt bs 9 1, steps := vt bs 29 8, cycles := vt bs 37 8 }
def aAh (m : Mm) (bs : AB) : Mm := { aOT m bs with bd := aA3 bs, work := (bs.drop 163).take 8192, high := (bs.drop 8355).take 127 }
section
variable {A : Ad} {acc : AH} {m : Mm} (h : MLn m) (bs : AB)
def sH {k : FK} {os : AE} {m' : Mm} {p : Nat} (ho : (os.all fun o => Nat.blt o 49) = true) (h1 : dK k os (iB m) bs p = iB m') (h2 : cBd m.bd ++ fD A acc m = cBd m'.bd ++ fD A acc m') : dK k os (cMm A acc m) bs p = cMm A acc m' := by
 rw [mZ, xS (fun o hx => by rw [fQ]; exact ae (List.all_eq_true.1 ho o hx)), h1, h2, ← mZ]
def dA (m : Mm) (bs : AB) (p : Nat) : Mm := { m with cpu := { m.cpu with r := { m.cpu.r with a := vt bs p 1, f := vt bs (p + 1) 1, b := vt bs (p + 2) 1, c := vt bs (p + 3) 1, d := vt bs (p + 4) 1, e := vt bs (p + 5) 1, h := vt bs (p + 6) 1, l := vt bs (p + 7) 1 } } }
def dA2 (m : Mm) (bs : AB) (p : Nat) : Mm := { m with bk := { m.bk with last := vt bs p 1 }, pd := ⟨vt bs (p + 1) 1, vt bs (p + 2) 1⟩, cp := { m.cp with page := vt bs (p + 3) 1 } }
def dW (m : Mm) (bs : AB) (p : Nat) : Mm := { m with cpu := { m.cpu with r := { m.cpu.r with sp := vt bs p 2, pc := vt bs (p + 2) 2 } }, tm := { m.tm with cnt := vt bs (p + 4) 2 } }
def dB (m : Mm) (bs : AB) (p : Nat) : Mm := { m with cpu := { m.cpu with ime := bo bs p, soon := bo bs (p + 1), halt := bo bs (p + 2), stop := bo bs (p + 3) }, bk := { m.bk with on := bo bs (p + 4), mode := bo bs (p + 5) }, tm := { m.tm with over := bo bs (p + 6) }, ck := { m.ck with halt := bo bs (p + 7), carry := bo bs (p + 8) } }
def dI (m : Mm) (bs : AB) (p : Nat) : Mm := { m with bk := { m.bk with low := vt bs p 2, high := vt bs (p + 2) 2 }, ck := { m.ck with day := vt bs (p + 4) 2 }, pt := { m.pt with bits := vt bs (p + 6) 2, count := vt bs (p + 8) 2, sent := vt bs (p + 10) 2 }, cp := { m.cp with left := vt bs (p + 12) 2 } }
def dS (m : Mm) (bs : AB) (p : Nat) : Mm := { m with ck := { m.ck with sub := vt bs p 4 } }
def dC (m : Mm) (bs : AB) (p : Nat) : Mm := { m with ck := { m.ck with s := vt bs p 1, m := vt bs (p + 1) 1, h := vt bs (p + 2) 1 }, tm := { m.tm with tima := vt bs (p + 3) 1, tma := vt bs (p + 4) 1, tac := vt bs (p + 5) 1 }, pt := { m.pt with data := vt bs (p + 6) 1, control := vt bs (p + 7) 1, last := vt bs (p + 8) 1 } }
def dH (m : Mm) (bs : AB) (p : Nat) : Mm := { m with ck := { m.ck with h0 := vt bs p 1, h1 := vt bs (p + 1) 1, h2 := vt bs (p + 2) 1, h3 := vt bs (p + 3) 1, h4 := vt bs (p + 4) 1 } }
def aS2 (p : Nat) : dK .byte [0, 1, 2, 3, 4, 5, 6, 7] (cMm A acc m) bs p = cMm A acc (dA m bs p) := sH bs rfl y_f rfl
def aR8 (p : Nat) : dK .byte [21, 39, 40, 47] (cMm A acc m) bs p = cMm A acc (dA2 m bs p) := sH bs rfl y_f rfl
def aUR (p : Nat) : dK .word gW (cMm A acc m) bs p = cMm A acc (dW m bs p) := sH bs rfl y_f rfl
def aUA (p : Nat) : dK .bool gB (cMm A acc m) bs p = cMm A acc (dB m bs p) := sH bs rfl y_f rfl
def aUQ (p : Nat) : dK (.int 2) gI (cMm A acc m) bs p = cMm A acc (dI m bs p) := sH bs rfl y_f rfl
def aUs (p : Nat) : dK (.int 4) [26] (cMm A acc m) bs p = cMm A acc (dS m bs p) := sH bs rfl y_f rfl
def aUl (p : Nat) : dK .byte gC (cMm A acc m) bs p = cMm A acc (dC m bs p) := sH bs rfl y_f rfl
def aUB (p : Nat) : dK .byte (bY 29 5) (cMm A acc m) bs p = cMm A acc (dH m bs p) := sH bs y_b y_f rfl
include h
def aUD (p : Nat) : dK (.long 8) [121] (cMm A acc m) bs p = cMm A acc { m with steps := vt bs p 8 } := aDa h _
def aUH (p : Nat) : dK (.long 8) [122] (cMm A acc m) bs p = cMm A acc { m with cycles := vt bs p 8 } := aBs h _
def aUj (p : Nat) : dK .byte [119] (cMm A acc m) bs p = cMm A acc { m with flags := vt bs p 1 } := qR h _
def aUq (p : Nat) : dK .byte [120] (cMm A acc m) bs p = cMm A acc { m with lets := vt bs p 1 } := sX h _
omit h in
def aBK {k : FK} {a b : AE} {L : AA} {p q : Nat} (hq : q = p + a.length * k.many) : dK k (a ++ b) L bs p = dK k b (dK k a L bs p) bs q := by rw [aAW, hq]
def aTW : dK .byte gA (cMm A acc m) bs 0 = cMm A acc (dA2 { dA m bs 0 with flags := vt bs 8 1, lets := vt bs 9 1 } bs 10) := by
 have e : gA = [0, 1, 2, 3, 4, 5, 6, 7] ++ ([119] ++ ([120] ++ [21, 39, 40, 47])) := rfl
 have h1 : MLn (dA m bs 0) := ⟨h.bd, h.work, h.high⟩
 have h2 : MLn { dA m bs 0 with flags := vt bs 8 1 } := ⟨h.bd, h.work, h.high⟩
 rw [e, aBK bs (q := 8) rfl, aS2, aBK bs (q := 9) rfl, aUj h1, aBK bs (q := 10) rfl, aUq h2, aR8]
end
end Go.Proofs.YtacejanlmhbddaaGreat
