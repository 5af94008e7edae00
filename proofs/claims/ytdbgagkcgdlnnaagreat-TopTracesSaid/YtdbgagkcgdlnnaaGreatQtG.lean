/- Parts. -/
import Derived.Test.YtdbgagkcgdlnnaaGreatProg
import Derived.Test.YtdbgagkcgdlnnaaGreatQtC
import Derived.Test.YtdbgagkcgdlnnaaGreatQtF
set_option maxRecDepth 100000
set_option maxHeartbeats 1000000
set_option linter.all false
namespace Go.Proofs.YtdbgagkcgdlnnaaGreat
open Go Go.VV Go.Proofs Go.RowKit Go.Proofs.Tryz
def tyM (o : Nat) : Option FK :=
 if o < 8 then some .byte else if o < 10 then some .word else if o < 14 then some .bool else if o < 17 then none else if o < 19 then some .bool else if o < 21 then some (.int 2) else if o < 25 then some .byte
 else if o < 26 then some (.int 2) else if o < 27 then some (.int 4) else if o < 29 then some .bool else if o < 34 then some .byte else if o < 35 then some .word else if o < 38 then some .byte else if o < 39 then some .bool
 else if o < 44 then some .byte else if o < 47 then some (.int 2) else if o < 48 then some .byte else if o < 49 then some (.int 2) else if o < 97 then some .byte else if o < 98 then some .bool else if o < 100 then some (.int 2)
 else if o < 116 then (if o % 4 = 0 then some .bool else some (.int 2)) else if o < 118 then some (.int 2) else if o < 119 then some .bool else if o < 121 then some .byte else if o < 123 then some (.long 8) else if o < 135 then none
 else if o < 8454 then some .byte else none
def gA : AE := [0, 1, 2, 3, 4, 5, 6, 7, 119, 120, 21, 39, 40, 47]
def gW : AE := [8, 9, 34]
def gB : AE := [10, 11, 12, 13, 17, 18, 38, 27, 28]
def gI : AE := [19, 20, 25, 44, 45, 46, 48]
def gC : AE := [22, 23, 24, 35, 36, 37, 41, 42, 43]
def mC (r : Bool) (s : Ps) : Nat → Ps
 | 0 => s
 | i + 1 => aJ r (.int 2) [101 + 4 * i, 102 + 4 * i, 103 + 4 * i] (aJ r .bool [100 + 4 * i] (mC r s i))
def qI (r : Bool) (s : Ps) : Ps := mC r (aJ r (.int 2) [98, 99, 116, 117] (aJ r .bool [97, 118] (aJ r .byte (cX 49 48) s))) 4
def aBu (r : Bool) (s : Ps) : Ps :=
 aJ r .byte gC (aJ r (.int 4) [26] (aJ r (.int 2) gI (pass1 r (.long 8) (pass1 r (.long 8) (aJ r .bool gB (aJ r .word gW (aJ r .byte gA s))) 121) 122)))
def rR (r : Bool) (s : Ps) : Ps := aJ r .byte (cX 8327 127) (aJ r .byte (cX 135 8192) (qI r (aJ r .byte (cX 29 5) (aBu r s))))
def aFd {α : Type} (G : List α) (x y : α) : ((G ++ [x]) ++ [y]).Perm ((G ++ [y]) ++ [x]) := by
 rw [As_, As_]
 exact List.Perm.append_left _ (List.Perm.swap _ _ _)
def aMb : ∀ o ∈ gA, tyM o = some .byte := by decide
def aMY : ∀ o ∈ gW, tyM o = some .word := by decide
def aK7 : ∀ o ∈ gB, tyM o = some .bool := by decide
def aLL : ∀ o ∈ gI, tyM o = some (.int 2) := by decide
def aLD : ∀ o ∈ gC, tyM o = some .byte := by decide
def aCo {a n : Nat} (h : ∀ i, i < n → tyM (a + i) = some .byte) : ∀ o ∈ cX a n, tyM o = some .byte := fun o ho => by
 obtain ⟨i, hi, rfl⟩ := aAY ho
 exact h i hi
def aB9 : ∀ o ∈ cX 29 5, tyM o = some .byte := by decide
def vN : ∀ o ∈ cX 49 48, tyM o = some .byte := aCo fun i hi => by
 have key : ∀ k : Fin 48, tyM (49 + k.val) = some .byte := by decide
 exact key ⟨i, hi⟩
def aAp : ∀ o ∈ cX 135 8192, tyM o = some .byte := aCo fun i hi => by unfold tyM; repeat (first | rw [if_neg o_m] | rw [if_pos o_m])
def aAv : ∀ o ∈ cX 8327 127, tyM o = some .byte := aCo fun i hi => by unfold tyM; repeat (first | rw [if_neg o_m] | rw [if_pos o_m])
structure eI (r : Bool) (n : Nat) (s : Ps) : Prop where
 ty : qL tyM s.1
 ok : eO r n s
section
variable {r : Bool} {s : Ps} {n : Nat}
def eI.pass {k : FK} {os : AE} (h : eI r (os.length * k.many + n) s) (hk : k.fits) (ho : ∀ o ∈ os, tyM o = some k) : eI r n (aJ r k os s) := ⟨h.ty.pass hk h.ok.byts ho, h.ok.pass⟩
def eI.fit {k : FK} {os : AE} (h : eI r n s) (ho : ∀ o ∈ os, tyM o = some k) : ∀ o ∈ os, Fit k s.1 o := fun o hx => h.ty o k (ho o hx)
def eI.le {m : Nat} (h : eI r n s) (hm : m ≤ n) : eI r m s := ⟨h.ty, h.ok.le hm⟩
def eI.one {k : FK} {o : Nat} (h : eI r (k.many + n) s) (hk : k.fits) (ho : tyM o = some k) : eI r n (pass1 r k s o) :=
 eI.pass (os := [o]) (k := k) (h.le y_v) hk y_dp
def aDN {i : Nat} (hi : i < 4) : ∀ o ∈ [100 + 4 * i], tyM o = some .bool := by
 rcases (show i = 0 ∨ i = 1 ∨ i = 2 ∨ i = 3 by omega) with rfl | rfl | rfl | rfl <;> decide
def aDR {i : Nat} (hi : i < 4) : ∀ o ∈ [101 + 4 * i, 102 + 4 * i, 103 + 4 * i], tyM o = some (.int 2) := by
 rcases (show i = 0 ∨ i = 1 ∨ i = 2 ∨ i = 3 by omega) with rfl | rfl | rfl | rfl <;> decide
def eI.voices (h : eI r (28 + n) s) : ∀ i, i ≤ 4 → eI r (7 * (4 - i) + n) (mC r s i)
 | 0, _ => h
 | i + 1, hi => ((((h.voices i o_m).le (m := 1 + (6 + (7 * (4 - (i + 1)) + n))) o_m).pass (k := .bool) (os := [100 + 4 * i]) trivial (aDN o_m)).pass (k := .int 2) (os := [101 + 4 * i, 102 + 4 * i, 103 + 4 * i]) (show 2 ≤ 4 by decide) (aDR o_m))
def eI.board (h : eI r (86 + n) s) : eI r n (qI r s) := by
 have h1 := (h.le (m := 48 * 1 + (38 + n)) o_m).pass (k := .byte) (os := cX 49 48) trivial vN
 have h2 := (h1.le (m := 2 + (36 + n)) o_m).pass (k := .bool) (os := [97, 118]) trivial (show ∀ o ∈ [97, 118], tyM o = some .bool by decide)
 have h3 := (h2.le (m := 8 + (28 + n)) o_m).pass (k := .int 2) (os := [98, 99, 116, 117]) (show 2 ≤ 4 by decide) (show ∀ o ∈ [98, 99, 116, 117], tyM o = some (.int 2) by decide)
 exact (h3.voices 4 y_b).le o_m
def aK2 {k : FK} {o j : Nat} (h : Fit k s.1 o) (hj : j ≠ o) : (pass1 r k s o).1[j]? = s.1[j]? := by
 unfold pass1
 split
 ·show (aP s.1 o _)[j]? = _; rw [sL h.lt, if_neg hj]
 ·rfl
def aBo {k : FK} {j : Nat} (hk : k.fits) (hj : tyM j = none) : ∀ {os : AE} {s : Ps}, qL tyM s.1 → aY s.2 → (∀ o ∈ os, tyM o = some k) → (aJ r k os s).1[j]? = s.1[j]?
 | [], _, _, _, _ => rfl
 | o :: os, s, h, hb, ho => by
  show (aJ r k os (pass1 r k s o)).1[j]? = _
  have h1 : qL tyM (pass1 r k s o).1 := qL.pass (os := [o]) (k := k) h hk hb (by intro x hx; rw [List.mem_singleton.1 hx]; exact ho o (.head _))
  rw [aBo hk hj h1 (wS hb o) (fun x hx => ho x (.tail _ hx)), aK2 (h o k (ho o (.head _))) (by rintro rfl; rw [ho j (.head _)] at hj; cases hj)]
structure oD (j : Nat) (s s' : Ps) : Prop where
 ty : qL tyM s'.1
 byts : aY s'.2
 at_ : s'.1[j]? = s.1[j]?
def oD.pass {j : Nat} {s' : Ps} (h : oD j s s') (hj : tyM j = none) {k : FK} {os : AE} (hk : k.fits) (ho : ∀ o ∈ os, tyM o = some k) : oD j s (aJ r k os s') := ⟨h.ty.pass hk h.byts ho, uU h.byts, (aBo hk hj h.ty h.byts ho).trans h.at_⟩
def oD.one {j : Nat} {s' : Ps} (h : oD j s s') (hj : tyM j = none) {k : FK} {o : Nat} (hk : k.fits) (ho : tyM o = some k) : oD j s (pass1 r k s' o) := h.pass (os := [o]) hj hk y_dp
def oD.voices {j : Nat} {s' : Ps} (h : oD j s s') (hj : tyM j = none) : ∀ i, i ≤ 4 → oD j s (mC r s' i)
 | 0, _ => h
 | i + 1, hi => ((h.voices hj i o_m).pass hj (k := .bool) trivial (aDN o_m)).pass hj (k := .int 2) (show 2 ≤ 4 by decide) (aDR o_m)
def oD.all {j : Nat} (h : oD j s s) (hj : tyM j = none) : oD j s (rR r s) := by
 have h8 : oD j s (aBu r s) := (((((((h.pass hj (k := .byte) trivial aMb).pass hj (k := .word) trivial aMY).pass hj (k := .bool) trivial aK7).one hj (k := .long 8) (o := 121) (show 8 ≤ 8 by decide) y_b).one hj (k := .long 8) (o := 122) (show 8 ≤ 8 by decide) y_b).pass hj (k := .int 2) (show 2 ≤ 4 by decide) aLL).pass hj (k := .int 4) (show 4 ≤ 4 by decide) (show ∀ o ∈ [26], tyM o = some (.int 4) by decide)).pass hj (k := .byte) trivial aLD
 have h9 := (((h8.pass hj (r := r) (k := .byte) trivial aB9).pass hj (r := r) (k := .byte) trivial vN).pass hj (r := r) (k := .bool) (os := [97, 118]) trivial y_b).pass hj (r := r) (k := .int 2) (os := [98, 99, 116, 117]) (show 2 ≤ 4 by decide) y_b
 exact ((h9.voices hj 4 y_b).pass hj (k := .byte) trivial aAp).pass hj (k := .byte) trivial aAv
def aJK (r : Bool) (s : Ps) {j : Nat} (hj : tyM j = none) (ht : qL tyM s.1) (hb : aY s.2) : (rR r s).1[j]? = s.1[j]? := (oD.all ⟨ht, hb, rfl⟩ hj).at_
end
def vt (bs : AB) (p n : Nat) : Int := val (bs.drop p) n
def bo (bs : AB) (p : Nat) : Bool := vt bs p 1 == 1
def aNN (bs : AB) (p : Nat) : List Vc := [⟨bo bs p, vt bs (p + 1) 2, vt bs (p + 3) 2, vt bs (p + 5) 2⟩, ⟨bo bs (p + 7), vt bs (p + 8) 2, vt bs (p + 10) 2, vt bs (p + 12) 2⟩, ⟨bo bs (p + 14), vt bs (p + 15) 2, vt bs (p + 17) 2, vt bs (p + 19) 2⟩, ⟨bo bs (p + 21), vt bs (p + 22) 2, vt bs (p + 24) 2, vt bs (p + 26) 2⟩]
def aHN (bs : AB) : Bd := ⟨(bs.drop 77).take 48, bo bs 125, vt bs 127 2, vt bs 129 2, aNN bs 135, vt bs 131 2, vt bs 133 2, bo bs 126⟩
def aMG (m : Mm) (bs : AB) : Mm := { m with
 cpu := ⟨⟨vt bs 0 1, vt bs 1 1, vt bs 2 1, vt bs 3 1, vt bs 4 1, vt bs 5 1, vt bs 6 1, vt bs 7 1, vt bs 14 2, vt bs 16 2⟩, bo bs 20, bo bs 21, bo bs 22, bo bs 23⟩,
 bk := { m.bk with last := vt bs 10 1, on := bo bs 24, mode := bo bs 25, low := vt bs 45 2, high := vt bs 47 2 },
 ck := ⟨vt bs 63 1, vt bs 64 1, vt bs 65 1, vt bs 49 2, vt bs 59 4, bo bs 27, bo bs 28, vt bs 72 1, vt bs 73 1, vt bs 74 1, vt bs 75 1, vt bs 76 1⟩,
 tm := ⟨vt bs 18 2, vt bs 66 1, vt bs 67 1, vt bs 68 1, bo bs 26⟩,
 pd := ⟨vt bs 11 1, vt bs 12 1⟩, pt := ⟨vt bs 69 1, vt bs 70 1, vt bs 71 1, vt bs 51 2, vt bs 53 2, vt bs 55 2⟩, cp := ⟨vt bs 13 1, vt bs 57 2⟩,
 flags := vt bs 8 1, lets := vt bs 9 1, steps := vt bs 29 8, cycles := vt bs 37 8 }
def aHw (m : Mm) (bs : AB) : Mm := { aMG m bs with bd := aHN bs, work := (bs.drop 163).take 8192, high := (bs.drop 8355).take 127 }
section
variable {A : Ad} {acc : AH} {m : Mm} (h : MLn m) (bs : AB)
def dA (m : Mm) (bs : AB) (p : Nat) : Mm := { m with cpu := { m.cpu with r := { m.cpu.r with a := vt bs p 1, f := vt bs (p + 1) 1, b := vt bs (p + 2) 1, c := vt bs (p + 3) 1, d := vt bs (p + 4) 1, e := vt bs (p + 5) 1, h := vt bs (p + 6) 1, l := vt bs (p + 7) 1 } } }
def dW (m : Mm) (bs : AB) (p : Nat) : Mm := { m with cpu := { m.cpu with r := { m.cpu.r with sp := vt bs p 2, pc := vt bs (p + 2) 2 } }, tm := { m.tm with cnt := vt bs (p + 4) 2 } }
def dI (m : Mm) (bs : AB) (p : Nat) : Mm := { m with bk := { m.bk with low := vt bs p 2, high := vt bs (p + 2) 2 }, ck := { m.ck with day := vt bs (p + 4) 2 }, pt := { m.pt with bits := vt bs (p + 6) 2, count := vt bs (p + 8) 2, sent := vt bs (p + 10) 2 }, cp := { m.cp with left := vt bs (p + 12) 2 } }
include h
end
def aAT (b : Bd) : AA := [.bool b.on, .int .i64 b.div, .int .i64 b.step] ++ (aE cVc b.vs ++ [.int .i64 b.pitch, .int .i64 b.slide, .bool b.slides])
section
variable {A : Ad} {acc : AH} {m : Mm} (h : MLn m) (bs : AB)
def aFs : cMm A acc m = (kA m ++ m.bd.regs.map (.int .u8)) ++ (aAT m.bd ++ fV A acc m) := by
 rw [vA]
 show kA m ++ ((m.bd.regs.map (.int .u8) ++ aAT m.bd) ++ fV A acc m) = _
 simp only [As_]
include h
def aGH : ∃ a b c d, m.bd.vs = [a, b, c, d] := by
 have h4 := h.bd.lV
 match e : m.bd.vs, h4 with
 | [a, b, c, d], _ => exact ⟨a, b, c, d, rfl⟩
end
def eY (k : FK) (os : AE) (L : AA) : AB := os.flatMap fun o => cT k.many (FK.at L o)
def mO {k : FK} {L : AA} : ∀ {os : AE} {bs : AB}, aJ false k os (L, bs) = (L, bs ++ eY k os L)
 | [], bs => by simp [aJ, eY]
 | o :: os, bs => by
  show aJ false k os (L, bs ++ cT k.many (FK.at L o)) = _
  rw [mO]
  simp [eY]
def sF (L : AA) : Nat → AB
 | 0 => []
 | i + 1 => sF L i ++ (eY .bool [100 + 4 * i] L ++ eY (.int 2) [101 + 4 * i, 102 + 4 * i, 103 + 4 * i] L)
def aB4 {L : AA} {bs : AB} : ∀ i, mC false (L, bs) i = (L, bs ++ sF L i)
 | 0 => by simp [mC, sF]
 | i + 1 => by
  show aJ false (.int 2) _ (aJ false .bool _ (mC false (L, bs) i)) = _
  rw [aB4 i, mO, mO]
  simp [sF]
def aIu (L : AA) : AB := eY .byte (cX 49 48) L ++ (eY .bool [97, 118] L ++ (eY (.int 2) [98, 99, 116, 117] L ++ sF L 4))
def aH7 (L : AA) : AB := eY .byte gA L ++ (eY .word gW L ++ (eY .bool gB L ++ (cT 8 (FK.at L 121) ++ (cT 8 (FK.at L 122) ++ (eY (.int 2) gI L ++ (eY (.int 4) [26] L ++ eY .byte gC L))))))
def aHP (L : AA) : AB := aH7 L ++ (eY .byte (cX 29 5) L ++ (aIu L ++ (eY .byte (cX 135 8192) L ++ eY .byte (cX 8327 127) L)))
def aOC {k : FK} {os : AE} (s : Ps) : aJ false k os s = (s.1, s.2 ++ eY k os s.1) := mO
def aQq {k : FK} {o : Nat} (s : Ps) : pass1 false k s o = (s.1, s.2 ++ cT k.many (FK.at s.1 o)) := rfl
def aRq {i : Nat} (s : Ps) : mC false s i = (s.1, s.2 ++ sF s.1 i) := aB4 i
def aBg {α β : Type} {f g : α → List β} : ∀ {l : List α}, (∀ i ∈ l, f i = g i) → l.flatMap f = l.flatMap g
 | [], _ => rfl
 | a :: l, h => by rw [fo, fo, h a (.head _), aBg fun i hi => h i (.tail _ hi)]
def aFS {α β : Type} (f : α → β) : ∀ l : List α, (l.flatMap fun i => [f i]) = l.map f
 | [] => rfl
 | a :: l => by rw [fo, aFS f l]; rfl
def aBx {L : AA} {bs : AB} : rR false (L, bs) = (L, bs ++ aHP L) := by
 unfold rR qI aBu aHP aH7 aIu
 simp only [aOC, aQq, aRq, As_, FK.many]
def gX {L : AA} {o : Nat} {k : AM} {x : Int} (h : L[o]? = some (.int k x)) : FK.at L o = x := by unfold FK.at; rw [h]
def rY {L : AA} {o : Nat} {b : Bool} (h : L[o]? = some (.bool b)) : FK.at L o = dV b := by unfold FK.at; rw [h]; rfl
def aME {x : Int} (h : 0 ≤ x ∧ x < 256) : cT 1 x = [x] := by
 show [x / 256 ^ 0 % 256] = [x]
 rw [show x / 256 ^ 0 % 256 = x by show x / 1 % 256 = x; omega]
def xS {X Y : AA} {l : AB} {a n : Nat} (hX : X.length = a) (hl : l.length = n) (hb : aY l) : eY .byte (cX a n) (X ++ (l.map (.int .u8) ++ Y)) = l := by
 have e1 : eY .byte (cX a n) (X ++ (l.map (.int .u8) ++ Y)) = (List.range n).flatMap fun i => [l.getD i 0] := by
  unfold eY cX
  rw [List.flatMap_map]
  have : ∀ i ∈ List.range n, cT FK.byte.many (FK.at (X ++ (l.map (.int .u8) ++ Y)) (a + i)) = [l.getD i 0] := fun i hi => by
   rw [gX (k := .u8) (cH (n := i) (by rw [hX]) (eG (dL (by rw [hl]; exact List.mem_range.1 hi))))]
   exact aME (hb.get i)
  exact aBg this
 rw [e1]
 subst hl
 refine List.ext_getElem? fun i => ?_
 rw [aFS, bz]
 by_cases hi : i < l.length
 ·rw [ei hi, am hi]
  simp [Gd_, am hi]
 ·rw [da (by simpa using hi), da o_m]; rfl
def aIA (v : Vc) : AB := cT 1 (dV v.on) ++ (cT 2 v.len ++ (cT 2 v.lev ++ cT 2 v.wait))
def qM (b : Bd) : AB := b.regs ++ ((cT 1 (dV b.on) ++ cT 1 (dV b.slides)) ++ ((cT 2 b.div ++ (cT 2 b.step ++ (cT 2 b.pitch ++ cT 2 b.slide))) ++ b.vs.flatMap aIA))
def dH (m : Mm) (t : AB) : AB :=
 dgt m.cpu.r.a 0 :: dgt m.cpu.r.f 0 :: dgt m.cpu.r.b 0 :: dgt m.cpu.r.c 0 :: dgt m.cpu.r.d 0 :: dgt m.cpu.r.e 0 :: dgt m.cpu.r.h 0 :: dgt m.cpu.r.l 0 :: dgt m.flags 0 :: dgt m.lets 0 :: dgt m.bk.last 0 :: dgt m.pd.sel 0 :: dgt m.pd.down 0 :: dgt m.cp.page 0 ::
 dgt m.cpu.r.sp 0 :: dgt m.cpu.r.sp 1 :: dgt m.cpu.r.pc 0 :: dgt m.cpu.r.pc 1 :: dgt m.tm.cnt 0 :: dgt m.tm.cnt 1 ::
 dgt (dV m.cpu.ime) 0 :: dgt (dV m.cpu.soon) 0 :: dgt (dV m.cpu.halt) 0 :: dgt (dV m.cpu.stop) 0 :: dgt (dV m.bk.on) 0 :: dgt (dV m.bk.mode) 0 :: dgt (dV m.tm.over) 0 :: dgt (dV m.ck.halt) 0 :: dgt (dV m.ck.carry) 0 ::
 (cT 8 m.steps ++ (cT 8 m.cycles ++
 (dgt m.bk.low 0 :: dgt m.bk.low 1 :: dgt m.bk.high 0 :: dgt m.bk.high 1 :: dgt m.ck.day 0 :: dgt m.ck.day 1 :: dgt m.pt.bits 0 :: dgt m.pt.bits 1 :: dgt m.pt.count 0 :: dgt m.pt.count 1 :: dgt m.pt.sent 0 :: dgt m.pt.sent 1 :: dgt m.cp.left 0 :: dgt m.cp.left 1 ::
 dgt m.ck.sub 0 :: dgt m.ck.sub 1 :: dgt m.ck.sub 2 :: dgt m.ck.sub 3 ::
 dgt m.ck.s 0 :: dgt m.ck.m 0 :: dgt m.ck.h 0 :: dgt m.tm.tima 0 :: dgt m.tm.tma 0 :: dgt m.tm.tac 0 :: dgt m.pt.data 0 :: dgt m.pt.control 0 :: dgt m.pt.last 0 ::
 dgt m.ck.h0 0 :: dgt m.ck.h1 0 :: dgt m.ck.h2 0 :: dgt m.ck.h3 0 :: dgt m.ck.h4 0 :: t)))
def lY (m : Mm) : AB := dH m (qM m.bd ++ (m.work ++ m.high))
section
variable {A : Ad} {acc : AH} {m : Mm}
def aRP : eY .word gW (cMm A acc m) = [dgt m.cpu.r.sp 0, dgt m.cpu.r.sp 1, dgt m.cpu.r.pc 0, dgt m.cpu.r.pc 1, dgt m.tm.cnt 0, dgt m.tm.cnt 1] := by kernel_rfl
def aRN : eY .bool gB (cMm A acc m) = [dgt (dV m.cpu.ime) 0, dgt (dV m.cpu.soon) 0, dgt (dV m.cpu.halt) 0, dgt (dV m.cpu.stop) 0, dgt (dV m.bk.on) 0, dgt (dV m.bk.mode) 0, dgt (dV m.tm.over) 0, dgt (dV m.ck.halt) 0, dgt (dV m.ck.carry) 0] := by kernel_rfl
def aSA : eY (.int 2) gI (cMm A acc m) = [dgt m.bk.low 0, dgt m.bk.low 1, dgt m.bk.high 0, dgt m.bk.high 1, dgt m.ck.day 0, dgt m.ck.day 1, dgt m.pt.bits 0, dgt m.pt.bits 1, dgt m.pt.count 0, dgt m.pt.count 1, dgt m.pt.sent 0, dgt m.pt.sent 1, dgt m.cp.left 0, dgt m.cp.left 1] := by kernel_rfl
def aSm : eY (.int 4) [26] (cMm A acc m) = [dgt m.ck.sub 0, dgt m.ck.sub 1, dgt m.ck.sub 2, dgt m.ck.sub 3] := by kernel_rfl
def aR8 : eY .byte gC (cMm A acc m) = [dgt m.ck.s 0, dgt m.ck.m 0, dgt m.ck.h 0, dgt m.tm.tima 0, dgt m.tm.tma 0, dgt m.tm.tac 0, dgt m.pt.data 0, dgt m.pt.control 0, dgt m.pt.last 0] := by kernel_rfl
def aRY : eY .byte (cX 29 5) (cMm A acc m) = [dgt m.ck.h0 0, dgt m.ck.h1 0, dgt m.ck.h2 0, dgt m.ck.h3 0, dgt m.ck.h4 0] := by kernel_rfl
def aSq (h : MLn m) : eY .byte gA (cMm A acc m) = [dgt m.cpu.r.a 0, dgt m.cpu.r.f 0, dgt m.cpu.r.b 0, dgt m.cpu.r.c 0, dgt m.cpu.r.d 0, dgt m.cpu.r.e 0, dgt m.cpu.r.h 0, dgt m.cpu.r.l 0, dgt m.flags 0, dgt m.lets 0, dgt m.bk.last 0, dgt m.pd.sel 0, dgt m.pd.down 0, dgt m.cp.page 0] := by
 have e1 : FK.at (cMm A acc m) 119 = m.flags := gX (get_mid h (j := 0) rfl)
 have e2 : FK.at (cMm A acc m) 120 = m.lets := gX (get_mid h (j := 1) rfl)
 have key : eY .byte gA (cMm A acc m) = [dgt m.cpu.r.a 0, dgt m.cpu.r.f 0, dgt m.cpu.r.b 0, dgt m.cpu.r.c 0, dgt m.cpu.r.d 0, dgt m.cpu.r.e 0, dgt m.cpu.r.h 0, dgt m.cpu.r.l 0, dgt (FK.at (cMm A acc m) 119) 0, dgt (FK.at (cMm A acc m) 120) 0, dgt m.bk.last 0, dgt m.pd.sel 0, dgt m.pd.down 0, dgt m.cp.page 0] := by kernel_rfl
 rw [key, e1, e2]
def aQ6 (h : MLn m) : FK.at (cMm A acc m) 121 = m.steps := gX (get_mid h (j := 2) rfl)
def aQW (h : MLn m) : FK.at (cMm A acc m) 122 = m.cycles := gX (get_mid h (j := 3) rfl)
def aLG (h : MLn m) (t : AB) : aH7 (cMm A acc m) ++ (eY .byte (cX 29 5) (cMm A acc m) ++ t) = dH m t := by
 unfold aH7
 rw [aSq h, aRP, aRN, aQ6 h, aQW h, aSA, aSm, aR8, aRY]
 unfold dH
 simp only [As_, cg, bw]
def aJY (h : MLn m) {j : Nat} {v : AH} (hv : (aAT m.bd)[j]? = some v) : (cMm A acc m)[97 + j]? = some v := by
 rw [aFs]
 exact cH (n := j) (by rw [La_, iQ, Lm_, h.bd.lR]) (eG hv)
def aM6 (h : MLn m) : aIu (cMm A acc m) = qM m.bd := by
 obtain ⟨a, b, c, d, e⟩ := aGH h
 have e1 : eY .byte (cX 49 48) (cMm A acc m) = m.bd.regs := by rw [aFs, As_]; exact xS iQ h.bd.lR h.bd.bR
 have hE : aAT m.bd = [.bool m.bd.on, .int .i64 m.bd.div, .int .i64 m.bd.step] ++ ((cVc a ++ (cVc b ++ (cVc c ++ (cVc d ++ [])))) ++ [.int .i64 m.bd.pitch, .int .i64 m.bd.slide, .bool m.bd.slides]) := by unfold aAT; rw [e]; rfl
 have g : ∀ j v, ([.bool m.bd.on, .int .i64 m.bd.div, .int .i64 m.bd.step] ++ ((cVc a ++ (cVc b ++ (cVc c ++ (cVc d ++ [])))) ++ [.int .i64 m.bd.pitch, .int .i64 m.bd.slide, .bool m.bd.slides]) : AA)[j]? = some v → (cMm A acc m)[97 + j]? = some v := fun j v hv => aJY h (by rw [hE]; exact hv)
 have a0 := rY (g 0 _ rfl); have a1 := gX (g 1 _ rfl); have a2 := gX (g 2 _ rfl)
 have a3 := rY (g 3 _ rfl); have a4 := gX (g 4 _ rfl); have a5 := gX (g 5 _ rfl); have a6 := gX (g 6 _ rfl)
 have a7 := rY (g 7 _ rfl); have a8 := gX (g 8 _ rfl); have a9 := gX (g 9 _ rfl); have a10 := gX (g 10 _ rfl)
 have a11 := rY (g 11 _ rfl); have a12 := gX (g 12 _ rfl); have a13 := gX (g 13 _ rfl); have a14 := gX (g 14 _ rfl)
 have a15 := rY (g 15 _ rfl); have a16 := gX (g 16 _ rfl); have a17 := gX (g 17 _ rfl); have a18 := gX (g 18 _ rfl)
 have a19 := gX (g 19 _ rfl); have a20 := gX (g 20 _ rfl); have a21 := rY (g 21 _ rfl)
 unfold aIu qM sF sF sF sF sF
 rw [e1, e]
 simp only [eY, fo, List.flatMap_nil, bq, bw, FK.many, Nat.mul_zero, gn, Nat.reduceMul, Nat.reduceAdd] at a0 a1 a2 a3 a4 a5 a6 a7 a8 a9 a10 a11 a12 a13 a14 a15 a16 a17 a18 a19 a20 a21 ⊢
 rw [a0, a1, a2, a3, a4, a5, a6, a7, a8, a9, a10, a11, a12, a13, a14, a15, a16, a17, a18, a19, a20, a21]
 simp only [aIA, As_]
def aMc (h : m.Wf) : aHP (cMm A acc m) = lY m := by
 unfold aHP lY
 have e1 : eY .byte (cX 135 8192) (cMm A acc m) = m.work := by
  have e : cMm A acc m = (kA m ++ (cBd m.bd ++ aAL A m)) ++ (m.work.map (.int .u8) ++ (m.high.map (.int .u8) ++ [acc])) := by rw [vA]; unfold fV; simp only [As_]
  rw [e]; exact xS (by rw [La_, iQ, La_, cBd_len h.ln.bd, midM_len]) h.lWork h.bWork
 have e2 : eY .byte (cX 8327 127) (cMm A acc m) = m.high := by
  have e : cMm A acc m = (kA m ++ (cBd m.bd ++ (aAL A m ++ m.work.map (.int .u8)))) ++ (m.high.map (.int .u8) ++ [acc]) := by rw [vA]; unfold fV; simp only [As_]
  rw [e]; exact xS (by rw [La_, iQ, La_, cBd_len h.ln.bd, La_, midM_len, Lm_, h.lWork]) h.lHigh h.bHigh
 rw [aM6 h.ln, e1, e2]
 exact aLG h.ln _
end
def aP1 {A B : AB} {j : Nat} (h : j < A.length) : (A ++ B).getD j 0 = A.getD j 0 := by
 rw [Gd_, dp h, ← Gd_]
def aH2 {bs : AB} {p n : Nat} {x : Int} {t : AB} (h : bs.drop p = cT n x ++ t) : vt bs p n = x % 256 ^ n := by
 unfold vt
 rw [h, aDC n (m := cT n x) fun j hj => aP1 (by rw [pW]; exact hj)]
 exact aFO x n n (ax _)
section
variable {m : Mm} {t : AB}
def yM (p k : Nat) (x : Int) (h : (dH m t).drop p = cT k x ++ (dH m t).drop (p + k)) : vt (dH m t) p k = x % 256 ^ k := aH2 h
def eN {p : Nat} {x : Int} (hx : 0 ≤ x ∧ x < 256) (h : (dH m t).drop p = cT 1 x ++ (dH m t).drop (p + 1)) : vt (dH m t) p 1 = x := by rw [yM p 1 x h]; show x % 256 = x; omega
def qP {p : Nat} {x : Int} (hx : 0 ≤ x ∧ x < 65536) (h : (dH m t).drop p = cT 2 x ++ (dH m t).drop (p + 2)) : vt (dH m t) p 2 = x := by rw [yM p 2 x h]; show x % 65536 = x; omega
def aNs {x : Int} {b : Bool} (h : x = dV b) : (x == 1) = b := by subst h; cases b <;> rfl
def xX {p : Nat} {b : Bool} (h : (dH m t).drop p = cT 1 (dV b) ++ (dH m t).drop (p + 1)) : bo (dH m t) p = b := aNs (eN (by cases b <;> decide) h)
def aMw (h : m.Wf) (hr : m.cpu.r.Ok) (hd : 0 ≤ m.ck.day ∧ m.ck.day < 65536) (n : Mm) : aMG n (dH m t) = { n with cpu := m.cpu, bk := { n.bk with last := m.bk.last, on := m.bk.on, mode := m.bk.mode, low := m.bk.low, high := m.bk.high }, ck := m.ck, tm := m.tm, pd := m.pd, pt := m.pt, cp := m.cp, flags := m.flags, lets := m.lets, steps := m.steps, cycles := m.cycles } := by
 have hb := h.ck.byH
 have k : ∀ x ∈ m.ck.held, 0 ≤ x ∧ x < 256 := hb
 have g0 := k m.ck.h0 y_b3; have g1 := k m.ck.h1 y_b3; have g2 := k m.ck.h2 y_b3; have g3 := k m.ck.h3 y_b3; have g4 := k m.ck.h4 y_b3
 have s8 : vt (dH m t) 29 8 = m.steps := by rw [yM 29 8 m.steps y_i]; have := h.steps; show m.steps % 18446744073709551616 = _; omega
 have s9 : vt (dH m t) 37 8 = m.cycles := by rw [yM 37 8 m.cycles y_i]; have := h.cycles; show m.cycles % 18446744073709551616 = _; omega
 have s4 : vt (dH m t) 59 4 = m.ck.sub := by rw [yM 59 4 m.ck.sub y_i]; have := h.ck.sub; show m.ck.sub % 4294967296 = _; omega
 unfold aMG
 rw [eN (p := 0) hr.a y_i, eN (p := 1) hr.f y_i, eN (p := 2) hr.b y_i, eN (p := 3) hr.c y_i, eN (p := 4) hr.d y_i, eN (p := 5) hr.e y_i, eN (p := 6) hr.h y_i, eN (p := 7) hr.l y_i,
  qP (p := 14) hr.sp y_i, qP (p := 16) hr.pc y_i, xX (p := 20) (b := m.cpu.ime) y_i, xX (p := 21) (b := m.cpu.soon) y_i, xX (p := 22) (b := m.cpu.halt) y_i, xX (p := 23) (b := m.cpu.stop) y_i,
  eN (p := 10) h.bk.last y_i, xX (p := 24) (b := m.bk.on) y_i, xX (p := 25) (b := m.bk.mode) y_i, qP (p := 45) h.bk.low y_i, qP (p := 47) h.bk.high y_i,
  eN (p := 63) h.ck.s y_i, eN (p := 64) h.ck.m y_i, eN (p := 65) h.ck.h y_i, qP (p := 49) hd y_i, s4, xX (p := 27) (b := m.ck.halt) y_i, xX (p := 28) (b := m.ck.carry) y_i,
  eN (p := 72) g0 y_i, eN (p := 73) g1 y_i, eN (p := 74) g2 y_i, eN (p := 75) g3 y_i, eN (p := 76) g4 y_i,
  qP (p := 18) h.tm.cnt y_i, eN (p := 66) h.tm.tima y_i, eN (p := 67) h.tm.tma y_i, eN (p := 68) h.tm.tac y_i, xX (p := 26) (b := m.tm.over) y_i,
  eN (p := 11) h.pd.sel y_i, eN (p := 12) h.pd.down y_i, eN (p := 69) h.pt.data y_i, eN (p := 70) h.pt.control y_i, eN (p := 71) h.pt.last y_i, qP (p := 51) h.pt.bits y_i, qP (p := 53) h.pt.count y_i, qP (p := 55) h.pt.sent y_i,
  eN (p := 13) h.cp.page y_i, qP (p := 57) h.cp.left y_i, eN (p := 8) h.flags y_i, eN (p := 9) h.lets y_i, s8, s9]
def wP : (dH m t).drop 77 = t := by kernel_rfl
def aR7 (j k : Nat) : vt (dH m t) (77 + j) k = vt t j k := by unfold vt; rw [← bf, wP]
end
section
variable {b : Bd} (h : b.Wf) (t : AB)
def aDv (h : b.Ln) : (qM b).length = 86 := by
 have h4 := h.lV
 unfold qM
 have : ∀ l : List Vc, (l.flatMap aIA).length = 7 * l.length := fun l => by
  induction l with
  | nil => rfl
  | cons v l ih => rw [fo, La_, ih, Lc_]; show 7 + _ = _; omega
 simp only [La_, this, pW, h4, h.lR]
include h
def aKH {m : Mm} (X : AB) (e : m.bd = b) : aHN (dH m (qM b ++ X)) = b := by
 obtain ⟨R, on, div, step, vs, pitch, slide, slides⟩ := b
 have hR : R.length = 48 := h.lR
 have h4 : vs.length = 4 := h.lV
 obtain ⟨v0, v1, v2, v3, rfl⟩ : ∃ a b c d, vs = [a, b, c, d] := by
  match vs, h4 with
  | [a, b, c, d], _ => exact ⟨a, b, c, d, rfl⟩
 have o0 := h.oV v0 y_v; have o1 := h.oV v1 y_v; have o2 := h.oV v2 y_v; have o3 := h.oV v3 y_v
 obtain ⟨E, hE⟩ : ∃ E, E = ((cT 1 (dV on) ++ cT 1 (dV slides)) ++ ((cT 2 div ++ (cT 2 step ++ (cT 2 pitch ++ cT 2 slide))) ++ ([v0, v1, v2, v3].flatMap aIA))) ++ X := ⟨_, rfl⟩
 have e1 : qM ⟨R, on, div, step, [v0, v1, v2, v3], pitch, slide, slides⟩ ++ X = R ++ E := by rw [hE]; unfold qM; simp only [As_]
 rw [e1]
 have d48 : ∀ j k, vt (dH m (R ++ E)) (125 + j) k = vt E j k := fun j k => by
  rw [show 125 + j = 77 + (48 + j) by omega, aR7]; unfold vt; rw [← bf, dr hR]
 have b48 : ∀ j, bo (dH m (R ++ E)) (125 + j) = bo E j := fun j => by unfold bo; rw [d48]
 have w : ∀ {j : Nat} {x : Int} (T : AB), (0 ≤ x ∧ x < 65536) → E.drop j = cT 2 x ++ T → vt E j 2 = x := fun T hx he => by rw [aH2 he]; show _ % 65536 = _; omega
 have z : ∀ {j : Nat} {x : Bool} (T : AB), E.drop j = cT 1 (dV x) ++ T → bo E j = x := fun {j} {x} T he => aNs (by rw [aH2 he]; cases x <;> rfl)
 unfold aHN aNN
 have r : ((dH m (R ++ E)).drop 77).take 48 = R := by rw [wP, eg hR]
 rw [r]
 have f := fun j k => d48 j k
 rw [show bo (dH m (R ++ E)) 125 = on from (b48 0).trans (z (E.drop 1) y_X), show bo (dH m (R ++ E)) 126 = slides from (b48 1).trans (z (E.drop 2) y_X),
  show vt (dH m (R ++ E)) 127 2 = div from (d48 2 2).trans (w (E.drop 4) h.div y_X), show vt (dH m (R ++ E)) 129 2 = step from (d48 4 2).trans (w (E.drop 6) h.step y_X),
  show vt (dH m (R ++ E)) 131 2 = pitch from (d48 6 2).trans (w (E.drop 8) h.pitch y_X), show vt (dH m (R ++ E)) 133 2 = slide from (d48 8 2).trans (w (E.drop 10) h.slide y_X),
  show bo (dH m (R ++ E)) 135 = v0.on from (b48 10).trans (z (E.drop 11) y_X), show vt (dH m (R ++ E)) (135 + 1) 2 = v0.len from (d48 11 2).trans (w (E.drop 13) o0.len y_X), show vt (dH m (R ++ E)) (135 + 3) 2 = v0.lev from (d48 13 2).trans (w (E.drop 15) o0.lev y_X), show vt (dH m (R ++ E)) (135 + 5) 2 = v0.wait from (d48 15 2).trans (w (E.drop 17) o0.wait y_X),
  show bo (dH m (R ++ E)) (135 + 7) = v1.on from (b48 17).trans (z (E.drop 18) y_X), show vt (dH m (R ++ E)) (135 + 8) 2 = v1.len from (d48 18 2).trans (w (E.drop 20) o1.len y_X), show vt (dH m (R ++ E)) (135 + 10) 2 = v1.lev from (d48 20 2).trans (w (E.drop 22) o1.lev y_X), show vt (dH m (R ++ E)) (135 + 12) 2 = v1.wait from (d48 22 2).trans (w (E.drop 24) o1.wait y_X),
  show bo (dH m (R ++ E)) (135 + 14) = v2.on from (b48 24).trans (z (E.drop 25) y_X), show vt (dH m (R ++ E)) (135 + 15) 2 = v2.len from (d48 25 2).trans (w (E.drop 27) o2.len y_X), show vt (dH m (R ++ E)) (135 + 17) 2 = v2.lev from (d48 27 2).trans (w (E.drop 29) o2.lev y_X), show vt (dH m (R ++ E)) (135 + 19) 2 = v2.wait from (d48 29 2).trans (w (E.drop 31) o2.wait y_X),
  show bo (dH m (R ++ E)) (135 + 21) = v3.on from (b48 31).trans (z (E.drop 32) y_X), show vt (dH m (R ++ E)) (135 + 22) 2 = v3.len from (d48 32 2).trans (w (E.drop 34) o3.len y_X), show vt (dH m (R ++ E)) (135 + 24) 2 = v3.lev from (d48 34 2).trans (w (E.drop 36) o3.lev y_X), show vt (dH m (R ++ E)) (135 + 26) 2 = v3.wait from (d48 36 2).trans (w (E.drop 38) o3.wait y_X)]
end
section
variable {m : Mm} (h : m.Wf)
include h
omit h in
def aLl (t : AB) : (dH m t).length = 77 + t.length := by unfold dH; simp only [Lc_, La_, pW]; omega
def aAF : (lY m).length = 8482 := by unfold lY; rw [aLl, La_, La_, aDv h.ln.bd, h.lWork, h.lHigh]
omit h in
def aLV (t X : AB) : dH m t ++ X = dH m (t ++ X) := by unfold dH; simp only [cg, As_]
def aMa (hr : m.cpu.r.Ok) (hd : 0 ≤ m.ck.day ∧ m.ck.day < 65536) (n : Mm) (X : AB) : aHw n (lY m ++ X) = { n with cpu := m.cpu, bk := { n.bk with last := m.bk.last, on := m.bk.on, mode := m.bk.mode, low := m.bk.low, high := m.bk.high }, ck := m.ck, tm := m.tm, pd := m.pd, pt := m.pt, cp := m.cp, bd := m.bd, flags := m.flags, lets := m.lets, steps := m.steps, cycles := m.cycles, work := m.work, high := m.high } := by
 unfold aHw lY
 rw [aLV, aMw h hr hd, As_, aKH h.bd _ rfl]
 have hl := aDv h.ln.bd
 have e1 : ((dH m (qM m.bd ++ (m.work ++ m.high ++ X))).drop 163).take 8192 = m.work := by
  rw [show 163 = 77 + 86 by rfl, ← bf, wP, dr hl, As_, eg h.lWork]
 have e2 : ((dH m (qM m.bd ++ (m.work ++ m.high ++ X))).drop 8355).take 127 = m.high := by
  rw [show 8355 = 77 + (86 + 8192) by rfl, ← bf, wP, ← bf, dr hl, As_, dr h.lWork, eg h.lHigh]
 rw [e1, e2]
end
def fS {L : AA} {o : Nat} {b : Bool} (h : L[o]? = some (.bool b)) : Fit .bool L o := ⟨dV b, by rw [h]; cases b <;> rfl, by cases b; exact .inl rfl; exact .inr rfl⟩
def fB {x : Int} (h : 0 ≤ x ∧ x < 65536) : -9223372036854775808 ≤ x ∧ x ≤ 9223372036854775807 := by omega
def aO4 {x : Int} (h : 0 ≤ x ∧ x < 4294967296) : -9223372036854775808 ≤ x ∧ x ≤ 9223372036854775807 := by omega
section
variable {A : Ad} {acc : AH} {m : Mm} (h : m.Wf) (hr : m.cpu.r.Ok)
include h hr
def aM5 {o : Nat} {k : FK} (ho : o < 49) (hk : tyM o = some k) : Fit k (kA m) o := by
 rcases (show o = 0 ∨ o = 1 ∨ o = 2 ∨ o = 3 ∨ o = 4 ∨ o = 5 ∨ o = 6 ∨ o = 7 ∨ o = 8 ∨ o = 9 ∨ o = 10 ∨ o = 11 ∨ o = 12 ∨ o = 13 ∨ o = 14 ∨ o = 15 ∨ o = 16 ∨ o = 17 ∨ o = 18 ∨ o = 19 ∨ o = 20 ∨ o = 21 ∨ o = 22 ∨ o = 23 ∨ o = 24 ∨ o = 25 ∨ o = 26 ∨ o = 27 ∨ o = 28 ∨ o = 29 ∨ o = 30 ∨ o = 31 ∨ o = 32 ∨ o = 33 ∨ o = 34 ∨ o = 35 ∨ o = 36 ∨ o = 37 ∨ o = 38 ∨ o = 39 ∨ o = 40 ∨ o = 41 ∨ o = 42 ∨ o = 43 ∨ o = 44 ∨ o = 45 ∨ o = 46 ∨ o = 47 ∨ o = 48 by omega) with rfl | rfl | rfl | rfl | rfl | rfl | rfl | rfl | rfl | rfl | rfl | rfl | rfl | rfl | rfl | rfl | rfl | rfl | rfl | rfl | rfl | rfl | rfl | rfl | rfl | rfl | rfl | rfl | rfl | rfl | rfl | rfl | rfl | rfl | rfl | rfl | rfl | rfl | rfl | rfl | rfl | rfl | rfl | rfl | rfl | rfl | rfl | rfl | rfl
 ·obtain rfl : FK.byte = k := ae hk
  exact ⟨_, rfl, hr.a⟩
 ·obtain rfl : FK.byte = k := ae hk
  exact ⟨_, rfl, hr.f⟩
 ·obtain rfl : FK.byte = k := ae hk
  exact ⟨_, rfl, hr.b⟩
 ·obtain rfl : FK.byte = k := ae hk
  exact ⟨_, rfl, hr.c⟩
 ·obtain rfl : FK.byte = k := ae hk
  exact ⟨_, rfl, hr.d⟩
 ·obtain rfl : FK.byte = k := ae hk
  exact ⟨_, rfl, hr.e⟩
 ·obtain rfl : FK.byte = k := ae hk
  exact ⟨_, rfl, hr.h⟩
 ·obtain rfl : FK.byte = k := ae hk
  exact ⟨_, rfl, hr.l⟩
 ·obtain rfl : FK.word = k := ae hk
  exact ⟨_, rfl, hr.sp⟩
 ·obtain rfl : FK.word = k := ae hk
  exact ⟨_, rfl, hr.pc⟩
 ·obtain rfl : FK.bool = k := ae hk
  exact fS rfl
 ·obtain rfl : FK.bool = k := ae hk
  exact fS rfl
 ·obtain rfl : FK.bool = k := ae hk
  exact fS rfl
 ·obtain rfl : FK.bool = k := ae hk
  exact fS rfl
 ·cases (show (none : Option FK) = some k from hk)
 ·cases (show (none : Option FK) = some k from hk)
 ·cases (show (none : Option FK) = some k from hk)
 ·obtain rfl : FK.bool = k := ae hk
  exact fS rfl
 ·obtain rfl : FK.bool = k := ae hk
  exact fS rfl
 ·obtain rfl : FK.int 2 = k := ae hk
  exact ⟨_, rfl, (fB h.bk.low)⟩
 ·obtain rfl : FK.int 2 = k := ae hk
  exact ⟨_, rfl, (fB h.bk.high)⟩
 ·obtain rfl : FK.byte = k := ae hk
  exact ⟨_, rfl, h.bk.last⟩
 ·obtain rfl : FK.byte = k := ae hk
  exact ⟨_, rfl, h.ck.s⟩
 ·obtain rfl : FK.byte = k := ae hk
  exact ⟨_, rfl, h.ck.m⟩
 ·obtain rfl : FK.byte = k := ae hk
  exact ⟨_, rfl, h.ck.h⟩
 ·obtain rfl : FK.int 2 = k := ae hk
  exact ⟨_, rfl, h.ck.day⟩
 ·obtain rfl : FK.int 4 = k := ae hk
  exact ⟨_, rfl, (aO4 h.ck.sub)⟩
 ·obtain rfl : FK.bool = k := ae hk
  exact fS rfl
 ·obtain rfl : FK.bool = k := ae hk
  exact fS rfl
 ·obtain rfl : FK.byte = k := ae hk
  exact ⟨_, rfl, (h.ck.byH m.ck.h0 y_b3)⟩
 ·obtain rfl : FK.byte = k := ae hk
  exact ⟨_, rfl, (h.ck.byH m.ck.h1 y_b3)⟩
 ·obtain rfl : FK.byte = k := ae hk
  exact ⟨_, rfl, (h.ck.byH m.ck.h2 y_b3)⟩
 ·obtain rfl : FK.byte = k := ae hk
  exact ⟨_, rfl, (h.ck.byH m.ck.h3 y_b3)⟩
 ·obtain rfl : FK.byte = k := ae hk
  exact ⟨_, rfl, (h.ck.byH m.ck.h4 y_b3)⟩
 ·obtain rfl : FK.word = k := ae hk
  exact ⟨_, rfl, h.tm.cnt⟩
 ·obtain rfl : FK.byte = k := ae hk
  exact ⟨_, rfl, h.tm.tima⟩
 ·obtain rfl : FK.byte = k := ae hk
  exact ⟨_, rfl, h.tm.tma⟩
 ·obtain rfl : FK.byte = k := ae hk
  exact ⟨_, rfl, h.tm.tac⟩
 ·obtain rfl : FK.bool = k := ae hk
  exact fS rfl
 ·obtain rfl : FK.byte = k := ae hk
  exact ⟨_, rfl, h.pd.sel⟩
 ·obtain rfl : FK.byte = k := ae hk
  exact ⟨_, rfl, h.pd.down⟩
 ·obtain rfl : FK.byte = k := ae hk
  exact ⟨_, rfl, h.pt.data⟩
 ·obtain rfl : FK.byte = k := ae hk
  exact ⟨_, rfl, h.pt.control⟩
 ·obtain rfl : FK.byte = k := ae hk
  exact ⟨_, rfl, h.pt.last⟩
 ·obtain rfl : FK.int 2 = k := ae hk
  exact ⟨_, rfl, (fB h.pt.bits)⟩
 ·obtain rfl : FK.int 2 = k := ae hk
  exact ⟨_, rfl, (fB h.pt.count)⟩
 ·obtain rfl : FK.int 2 = k := ae hk
  exact ⟨_, rfl, (fB h.pt.sent)⟩
 ·obtain rfl : FK.byte = k := ae hk
  exact ⟨_, rfl, h.cp.page⟩
 ·obtain rfl : FK.int 2 = k := ae hk
  exact ⟨_, rfl, (fB h.cp.left)⟩
omit hr in
def aQb {o : Nat} {k : FK} (h1 : 97 ≤ o) (h2 : o < 119) (hk : tyM o = some k) : Fit k (cMm A acc m) o := by
 obtain ⟨a, b, c, d, e⟩ := aGH h.ln
 have o0 := h.bd.oV a (by rw [e]; simp); have o1 := h.bd.oV b (by rw [e]; simp); have o2 := h.bd.oV c (by rw [e]; simp); have o3 := h.bd.oV d (by rw [e]; simp)
 have hE : aAT m.bd = [.bool m.bd.on, .int .i64 m.bd.div, .int .i64 m.bd.step] ++ ((cVc a ++ (cVc b ++ (cVc c ++ (cVc d ++ [])))) ++ [.int .i64 m.bd.pitch, .int .i64 m.bd.slide, .bool m.bd.slides]) := by unfold aAT; rw [e]; rfl
 have g : ∀ j v, ([.bool m.bd.on, .int .i64 m.bd.div, .int .i64 m.bd.step] ++ ((cVc a ++ (cVc b ++ (cVc c ++ (cVc d ++ [])))) ++ [.int .i64 m.bd.pitch, .int .i64 m.bd.slide, .bool m.bd.slides]) : AA)[j]? = some v → (cMm A acc m)[97 + j]? = some v := fun j v hv => aJY h.ln (by rw [hE]; exact hv)
 rcases (show o = 97 ∨ o = 98 ∨ o = 99 ∨ o = 100 ∨ o = 101 ∨ o = 102 ∨ o = 103 ∨ o = 104 ∨ o = 105 ∨ o = 106 ∨ o = 107 ∨ o = 108 ∨ o = 109 ∨ o = 110 ∨ o = 111 ∨ o = 112 ∨ o = 113 ∨ o = 114 ∨ o = 115 ∨ o = 116 ∨ o = 117 ∨ o = 118 by omega) with rfl | rfl | rfl | rfl | rfl | rfl | rfl | rfl | rfl | rfl | rfl | rfl | rfl | rfl | rfl | rfl | rfl | rfl | rfl | rfl | rfl | rfl
 ·obtain rfl : FK.bool = k := ae hk
  exact fS (g 0 _ rfl)
 ·obtain rfl : FK.int 2 = k := ae hk
  exact ⟨_, g 1 _ rfl, (fB h.bd.div)⟩
 ·obtain rfl : FK.int 2 = k := ae hk
  exact ⟨_, g 2 _ rfl, (fB h.bd.step)⟩
 ·obtain rfl : FK.bool = k := ae hk
  exact fS (g 3 _ rfl)
 ·obtain rfl : FK.int 2 = k := ae hk
  exact ⟨_, g 4 _ rfl, (fB o0.len)⟩
 ·obtain rfl : FK.int 2 = k := ae hk
  exact ⟨_, g 5 _ rfl, (fB o0.lev)⟩
 ·obtain rfl : FK.int 2 = k := ae hk
  exact ⟨_, g 6 _ rfl, (fB o0.wait)⟩
 ·obtain rfl : FK.bool = k := ae hk
  exact fS (g 7 _ rfl)
 ·obtain rfl : FK.int 2 = k := ae hk
  exact ⟨_, g 8 _ rfl, (fB o1.len)⟩
 ·obtain rfl : FK.int 2 = k := ae hk
  exact ⟨_, g 9 _ rfl, (fB o1.lev)⟩
 ·obtain rfl : FK.int 2 = k := ae hk
  exact ⟨_, g 10 _ rfl, (fB o1.wait)⟩
 ·obtain rfl : FK.bool = k := ae hk
  exact fS (g 11 _ rfl)
 ·obtain rfl : FK.int 2 = k := ae hk
  exact ⟨_, g 12 _ rfl, (fB o2.len)⟩
 ·obtain rfl : FK.int 2 = k := ae hk
  exact ⟨_, g 13 _ rfl, (fB o2.lev)⟩
 ·obtain rfl : FK.int 2 = k := ae hk
  exact ⟨_, g 14 _ rfl, (fB o2.wait)⟩
 ·obtain rfl : FK.bool = k := ae hk
  exact fS (g 15 _ rfl)
 ·obtain rfl : FK.int 2 = k := ae hk
  exact ⟨_, g 16 _ rfl, (fB o3.len)⟩
 ·obtain rfl : FK.int 2 = k := ae hk
  exact ⟨_, g 17 _ rfl, (fB o3.lev)⟩
 ·obtain rfl : FK.int 2 = k := ae hk
  exact ⟨_, g 18 _ rfl, (fB o3.wait)⟩
 ·obtain rfl : FK.int 2 = k := ae hk
  exact ⟨_, g 19 _ rfl, (fB h.bd.pitch)⟩
 ·obtain rfl : FK.int 2 = k := ae hk
  exact ⟨_, g 20 _ rfl, (fB h.bd.slide)⟩
 ·obtain rfl : FK.bool = k := ae hk
  exact fS (g 21 _ rfl)
def aJh : qL tyM (cMm A acc m) := fun o k hk => by
 by_cases h1 : o < 49
 ·obtain ⟨x, hx, hok⟩ := aM5 h hr h1 hk
  exact ⟨x, aM1 hx, hok⟩
 by_cases h2 : o < 97
 ·obtain ⟨i, rfl⟩ : ∃ i, o = 49 + i := ⟨o - 49, y_B⟩
  have hk' : tyM (49 + i) = some .byte := vN _ (sD o_m)
  rw [hk'] at hk; cases hk
  refine ⟨m.bd.regs.getD i 0, ?_, h.bd.bR.get i⟩
  rw [aFs, As_]
  exact cH (n := i) (by rw [iQ]) (eG (dL (by rw [h.bd.lR]; omega)))
 by_cases h3 : o < 119
 ·exact aQb h o_m h3 hk
 by_cases h4 : o < 135
 ·rcases (show o = 119 ∨ o = 120 ∨ o = 121 ∨ o = 122 ∨ 123 ≤ o by omega) with rfl | rfl | rfl | rfl | h5
  ·obtain rfl : FK.byte = k := ae hk
   exact ⟨_, get_mid h.ln (j := 0) rfl, h.flags⟩
  ·obtain rfl : FK.byte = k := ae hk
   exact ⟨_, get_mid h.ln (j := 1) rfl, h.lets⟩
  ·obtain rfl : FK.long 8 = k := ae hk
   exact ⟨_, get_mid h.ln (j := 2) rfl, h.steps⟩
  ·obtain rfl : FK.long 8 = k := ae hk
   exact ⟨_, get_mid h.ln (j := 3) rfl, h.cycles⟩
  ·have : tyM o = none := by unfold tyM; repeat (first | rw [if_neg o_m] | rw [if_pos o_m])
   rw [this] at hk; cases hk
 by_cases h5 : o < 8327
 ·obtain ⟨i, rfl⟩ : ∃ i, o = 135 + i := ⟨o - 135, y_B⟩
  rw [aAp _ (sD (show i < 8192 by omega))] at hk; cases hk
  exact ⟨_, aEz h.ln o_m, h.bWork.get i⟩
 by_cases h6 : o < 8454
 ·obtain ⟨i, rfl⟩ : ∃ i, o = 8327 + i := ⟨o - 8327, y_B⟩
  rw [aAv _ (sD (show i < 127 by omega))] at hk; cases hk
  exact ⟨_, get_high h.ln o_m, h.bHigh.get i⟩
 ·have : tyM o = none := by unfold tyM; repeat (first | rw [if_neg o_m] | rw [if_pos o_m])
  rw [this] at hk; cases hk
end
section
variable {m : Mm} (h : m.Wf) (rs : AA)
include h
def aPZ : ∀ o ∈ cX 0 m.ram.length, Fit .byte (m.ram.map (.int .u8) ++ rs) o := fun o ho => by
 obtain ⟨i, hi, rfl⟩ := aAY ho
 rw [az]
 exact ⟨_, eG (dL hi), h.bRam.get i⟩
def aGT (bs : AB) : aJ false .byte (cX 0 m.ram.length) (m.ram.map (.int .u8) ++ rs, bs) = (m.ram.map (.int .u8) ++ rs, bs ++ m.ram) := by
 rw [mO]
 exact cA_ (fun z => (_, bs ++ z)) (xS (X := []) rfl rfl h.bRam)
end
def fY (m : Mm) : AB := lY m ++ (m.ram ++ fU m.u)
def aHX (m : Mm) (bs : AB) : Mm := { aHw m bs with ram := (bs.drop 8482).take m.ram.length }
def aAu (m : Mm) (bs : AB) : Int :=
 if bs.length ≠ (fY m).length then 6 else if aEY (bs.drop (8482 + m.ram.length)) = 0 ∧ fY { aHX m bs with u := aEd (bs.drop (8482 + m.ram.length)) } = bs then 0 else 5
def aIm (m : Mm) (bs : AB) : Mm := if aAu m bs = 0 then { aHX m bs with u := aEd (bs.drop (8482 + m.ram.length)), acc := [] } else m
section
variable {u : PU}
def aJf (u : PU) : (stepU u).V = u.V ∧ (stepU u).O = u.O ∧ (stepU u).R = u.R := by
 unfold stepU jP kB oneU
 repeat' split
 all_goals exact ⟨rfl, rfl, rfl⟩
def yR (u : PU) : (tickU u).V = u.V ∧ (tickU u).O = u.O ∧ (tickU u).R = u.R := by
 unfold tickU
 split
 ·exact aJf u
 ·exact ⟨rfl, rfl, rfl⟩
end
structure PU.Ln (u : PU) : Prop where
 lV : u.V.length = 8192
 lO : u.O.length = 160
 lR : u.R.length = 12
 lP : u.P.length = 23040
def PU.Wf.ln {u : PU} (h : u.Wf) : u.Ln := ⟨h.lV, h.lO, h.lR, h.lP⟩
section
variable {l : AB} (hl : l.length = 31408)
def z1 (l : AB) : PU := { oK with V := l.take 8192 }
def z2 (l : AB) : PU := { z1 l with O := (l.drop 8192).take 160 }
def z3 (l : AB) : PU := { z2 l with R := (l.drop 8352).take 6 ++ List.replicate 6 0 }
include hl
def aK8 (h : okE l = true) : 0 = aEY l := by unfold aEY; rw [if_neg o_m, if_pos h]
end
section
variable {l : AB}
def aO7 (l : AB) : l.all (fun x => decide (x ≤ 3)) = !(l.any fun x => decide (3 < x)) := by
 induction l with
 | nil => rfl
 | cons x l ih =>
  rw [ij, List.any_cons, ih, Bool.not_or]
  congr 1
  by_cases h : x ≤ 3
  ·have h2 : ¬ 3 < x := by omega
   simp [h, h2]
  ·have h2 : 3 < x := by omega
   simp [h, h2]
def aSS (h1 : l.getD 8356 0 < 154) (h2 : l.getD 8363 0 < 114) (h3 : (iO .u8 (l.getD 8353 0) 120 != 0) = false) (h4 : l.getD 8367 0 ≤ 1) (h5 : ((l.drop 8368).any fun x => decide (3 < x)) = false) : okE l = true := by
 unfold okE
 rw [aO7, h5, ah h1, ah h2, ah h4, show (iO .u8 (l.getD 8353 0) 120 == 0) = true by simpa using h3]; rfl
end
structure PU.Good (u : PU) : Prop where
 ok : u.Ok
 own : u.own ≤ u.line + (if 63 ≤ u.dot then 1 else 0)
 r4 : u.R.getD 4 0 = 0
 r6 : u.R.getD 6 0 = 0
 pic : ∀ x ∈ u.P, x ≤ 3
 off : fX u = false → u.line = 0 ∧ u.dot = 0
def aIh : oK.Good := ⟨aFx, y_et, rfl, rfl, fun x hx => by rw [(List.mem_replicate.1 hx).2]; decide, fun _ => ⟨rfl, rfl⟩⟩
section
variable {u : PU}
def PU.Good.own_lt (h : u.Good) : u.own < 256 := by
 have h1 := h.own; have h2 := h.ok.line
 split at h1 <;> omega
def aKM (u : PU) : ∀ x ∈ rowU u, x ≤ 3 := fun x hx => by
 obtain ⟨k, _, rfl⟩ := List.mem_map.1 hx
 have := aBj u.V (u.r 0) (u.r 7) (u.r 8) (u.r 9) k u.line ((belowU u).getD k 0) ((eM (iY u.O (u.r 0) u.line)).find? (hit u.V (u.r 0) k u.line))
 unfold uC; omega
def aNh {l r : AB} {j : Nat} {x : Int} (h : x ∈ kR l j r) : x ∈ l ∨ x ∈ r := by
 unfold kR at h
 rcases List.mem_append.1 h with h | h
 ·rcases List.mem_append.1 h with h | h
  ·exact .inl (du h)
  ·exact .inr h
 ·exact .inl (ef h)
def PU.Good.ask (h : u.Good) : (askU u).Good := ⟨h.ok.ask, h.own, h.r4, h.r6, h.pic, h.off⟩
def PU.Good.tick (h : u.Good) : (tickU u).Good := by
 have hk := h.ok.tick
 by_cases hl : fX u = true
 ·have ht : tickU u = askU (stepU u) := by unfold tickU; rw [if_pos hl]
  refine ⟨hk, ?_, ?_, ?_, ?_, fun hf => ?_⟩
  ·rw [ht]
   show (stepU u).own ≤ (stepU u).line + (if 63 ≤ (stepU u).dot then 1 else 0)
   have ho := h.own; have hd := h.ok.dot; have hn := h.ok.line; have hd0 := h.ok.wf.dot; have hl0 := h.ok.wf.line
   by_cases h1 : u.dot = 62 ∧ u.line < 144
   ·rw [rT h1.1 h1.2]
    simp only [jP, oneU]
    split at ho <;> (try split) <;> (try split) <;> omega
   ·by_cases h2 : u.dot = 113
    ·rw [rA h2]
     unfold kB oneU
     dsimp only
     by_cases h3 : u.line = 143
     ·rw [if_pos h3]; dsimp only; split at ho <;> (try split) <;> omega
     ·rw [if_neg h3]
      by_cases h4 : u.line = 153
      ·rw [if_pos h4]; dsimp only; (try split) <;> omega
      ·rw [if_neg h4]; dsimp only; split at ho <;> (try split) <;> omega
    ·rw [sT h1 h2]
     simp only [oneU]
     split at ho <;> (try split) <;> omega
  ·rw [(yR u).2.2]; exact h.r4
  ·rw [(yR u).2.2]; exact h.r6
  ·rw [ht]
   show ∀ x ∈ (stepU u).P, x ≤ 3
   intro x hx
   unfold stepU jP kB oneU at hx
   split at hx
   ·rcases aNh hx with hx | hx
    ·exact h.pic x hx
    ·exact aKM _ x hx
   ·repeat' split at hx
    all_goals exact h.pic x hx
  ·have : fX (tickU u) = fX u := by unfold fX PU.r; rw [(yR u).2.2]
   rw [this, hl] at hf; cases hf
 ·have ht : tickU u = u := by unfold tickU; rw [if_neg hl]
  rw [ht]; exact h
def PU.Good.set (h : u.Good) {n x : Int} (hn : n = -1 ∨ (0 ≤ n ∧ n < 12 ∧ n ≠ 6)) (h0 : n ≠ -1) : (gS u n x).R.getD 4 0 = 0 ∧ (gS u n x).R.getD 6 0 = 0 := by
 have e : ∀ (j k : Nat) (y : Int), k ≠ j → (u.R.set j y).getD k 0 = u.R.getD k 0 := fun j k y hk => by
  rw [Gd_, gz (Ne.symm hk), ← Gd_]
 by_cases h1 : n = 1
 ·rw [set_1 h1]; exact ⟨(e 1 4 _ y_b).trans h.r4, (e 1 6 _ y_b).trans h.r6⟩
 ·by_cases h4 : n = 4
  ·rw [aBU h4]; exact ⟨h.r4, h.r6⟩
  ·rw [set_n h1 h4]; exact ⟨(e _ 4 _ o_m).trans h.r4, (e _ 6 _ o_m).trans h.r6⟩
def aK4 (u : PU) (n x : Int) : (gS u n x).P = u.P ∧ (gS u n x).line = u.line ∧ (gS u n x).dot = u.dot ∧ (gS u n x).own = u.own := by
 unfold gS
 repeat' split
 all_goals exact ⟨rfl, rfl, rfl, rfl⟩
def PU.Good.write (h : u.Good) {a x : Int} (hx : 0 ≤ x ∧ x < 256) : (eS u a x).Good := by
 have hk := h.ok.write (a := a) hx
 unfold eS at hk ⊢
 split
 ·split
  ·rename_i h1 h2
   rw [if_pos h1, if_pos h2] at hk
   exact ⟨hk, h.own, h.r4, h.r6, h.pic, h.off⟩
  ·exact h
 ·rename_i h1
  rw [if_neg h1] at hk
  split
  ·rename_i h2
   rw [if_pos h2] at hk
   split
   ·rename_i h3
    rw [if_pos h3] at hk
    exact ⟨hk, h.own, h.r4, h.r6, h.pic, h.off⟩
   ·exact h
  ·rename_i h2
   rw [if_neg h2] at hk
   split
   ·exact h
   ·rename_i h3
    rw [if_neg h3] at hk
    obtain ⟨e1, e2, e3, e4⟩ := aK4 u (numU a) x
    obtain ⟨g4, g6⟩ := h.set (x := x) (tS a) h3
    have hpic : ∀ y ∈ (gS u (numU a) x).P, y ≤ 3 := by rw [e1]; exact h.pic
    by_cases hz : fX u = true ∧ fX (gS u (numU a) x) = false
    ·have hp : putU u (numU a) x = { gS u (numU a) x with line := 0, dot := 0, own := 0 } := aAr hz.1 hz.2
     rw [hp] at hk ⊢
     exact ⟨hk, by show (0 : Int) ≤ 0 + (if (63 : Int) ≤ 0 then 1 else 0); decide, g4, g6, hpic, fun _ => ⟨rfl, rfl⟩⟩
    ·have hp : putU u (numU a) x = gS u (numU a) x := by unfold putU vZ; rw [if_neg hz]
     rw [hp] at hk ⊢
     refine ⟨hk, ?_, g4, g6, hpic, fun hf => ?_⟩
     ·show (gS u (numU a) x).own ≤ (gS u (numU a) x).line + (if 63 ≤ (gS u (numU a) x).dot then 1 else 0)
      rw [e2, e3, e4]; exact h.own
     ·show (gS u (numU a) x).line = 0 ∧ (gS u (numU a) x).dot = 0
      rw [e2, e3]
      have hf' : fX (gS u (numU a) x) = false := hf
      refine h.off ?_
      cases hq : fX u
      ·rfl
      ·exact absurd ⟨hq, hf'⟩ hz
def PU.Good.sprite (h : u.Good) (n : Int) {x : Int} (hx : 0 ≤ x ∧ x < 256) : (kH u n x).Good := by
 have hk := h.ok.sprite n hx
 unfold kH at hk ⊢
 split
 ·rename_i h1
  rw [if_pos h1] at hk
  exact ⟨hk, h.own, h.r4, h.r6, h.pic, h.off⟩
 ·exact h
end
def aJw : ∀ (R : AB) (n : Int), R.length = 12 → R.getD 4 0 = 0 → R.getD 6 0 = 0 → (((R.set 4 n).take 6 ++ 0 :: ((R.set 4 n).drop 7)).set 4 0) = R
 | [_, _, _, _, a, _, b, _, _, _, _, _], _, _, h4, h6 => by
  have h4 : a = 0 := h4
  have h6 : b = 0 := h6
  subst h4 h6; rfl
def aJk {x : Int} (hx : 0 ≤ x ∧ x < 256) : aG .u8 x 120 = x → iO .u8 x 120 = 0 :=
 aW (p := fun x => aG .u8 x 120 = x → iO .u8 x 120 = 0) y_F hx.1 hx.2
def zJ {A B : AB} {j : Nat} (h : j < A.length) : (A ++ B).getD j 0 = A.getD j 0 := by
 rw [Gd_, dp h, ← Gd_]
section
variable {u : PU} (h : u.Wf)
include h
omit h in
def aNy : fU u = u.V ++ (u.O ++ ((r4 u).take 6 ++ ((r4 u).drop 7 ++ (mD u ++ u.P)))) := by simp [fU, nZ, aAn, As_]
def aNM : (fU u).drop 8192 = u.O ++ ((r4 u).take 6 ++ ((r4 u).drop 7 ++ (mD u ++ u.P))) := by rw [aNy, dr h.lV]
def aDU : (fU u).drop 8352 = (r4 u).take 6 ++ ((r4 u).drop 7 ++ (mD u ++ u.P)) := by rw [show 8352 = 8192 + 160 by rfl, ← bf, aNM h, dr h.lO]
def aNJ : (fU u).drop 8358 = (r4 u).drop 7 ++ (mD u ++ u.P) := by rw [show 8358 = 8352 + 6 by rfl, ← bf, aDU h, dr y_dv]
def aNL : (fU u).drop 8363 = mD u ++ u.P := by rw [show 8363 = 8358 + 5 by rfl, ← bf, aNJ h, dr y_dv]
def aNx : (fU u).drop 8368 = u.P := by rw [show 8368 = 8363 + 5 by rfl, ← bf, aNL h, dr (l₁ := mD u) (show (mD u).length = 5 from rfl)]
def aFI : (fU u).getD 8356 0 = u.line := by
 rw [show 8356 = 8352 + 4 by rfl, ← yO, aDU h, zJ y_dv, aCX _ y_b]
 unfold r4
 rw [Gd_, gh (by rw [h.lR]; decide)]; rfl
def aOL : (fU u).getD 8353 0 = u.R.getD 1 0 := by
 rw [show 8353 = 8352 + 1 by rfl, ← yO, aDU h, zJ y_dv, aCX _ y_b]
 unfold r4
 rw [Gd_, gz y_b, ← Gd_]
def nS {j : Nat} (hj : j < 5) : (fU u).getD (8363 + j) 0 = (mD u).getD j 0 := by rw [← yO, aNL h, zJ (by simpa [mD] using hj)]
end
section
variable {u : PU} (h : u.Good)
include h
def aOS : aEd (fU u) = u := by
 have hw := h.ok.wf
 unfold aEd aNF
 rw [show (fU u).take 8192 = u.V by rw [aNy, eg hw.lV], aNM hw, eg hw.lO, aDU hw, eg (by simp [r4_len hw]), aNJ hw, eg (by simp [r4_len hw]), aNx hw, aFI hw,
  show (fU u).getD 8363 0 = u.dot from nS hw (j := 0) y_b, show (fU u).getD 8364 0 = u.own % 256 from nS hw (j := 1) y_b, show (fU u).getD 8365 0 = u.frames % 256 from nS hw (j := 2) y_b,
  show (fU u).getD 8366 0 = u.frames / 256 from nS hw (j := 3) y_b, show (fU u).getD 8367 0 = dV u.sig from nS hw (j := 4) y_b]
 have e1 : ((r4 u).take 6 ++ 0 :: (r4 u).drop 7).set 4 0 = u.R := aJw u.R u.line hw.lR h.r4 h.r6
 have h1 := h.own_lt; have h2 := hw.own; have h3 := hw.frames
 rw [e1, show u.own % 256 = u.own by omega, show u.frames % 256 + 256 * (u.frames / 256) = u.frames by omega]
 have e2 : (dV u.sig == 1) = u.sig := by unfold dV; cases u.sig <;> rfl
 rw [e2]
def aQL : okE (fU u) = true := by
 have hw := h.ok.wf
 refine aSS (by rw [aFI hw]; exact h.ok.line) (by rw [show (fU u).getD 8363 0 = u.dot from nS hw (j := 0) y_b]; exact h.ok.dot) ?_ ?_ ?_
 ·rw [aOL hw, aJk (hw.look 1) hw.how]; rfl
 ·rw [show (fU u).getD 8367 0 = dV u.sig from nS hw (j := 4) y_b]; unfold dV; split <;> decide
 ·rw [aNx hw, List.any_eq_false]
  intro x hx
  have := h.pic x hx
  simp; omega
def aNj : aEY (fU u) = 0 := (aK8 (aAS h.ok.wf) (aQL h)).symm
end
def aIz : AA := cS ⟨r0, false, false, false, false⟩ ++ (cBk ⟨0, 0, 0, false, false, 0, 0, 0⟩ ++ (cCk ⟨0, 0, 0, 0, 0, false, false, 0, 0, 0, 0, 0⟩ ++ (cTm ⟨0, 0, 0, 0, false⟩ ++ (cPd ⟨0, 0⟩ ++ (cPt ⟨0, 0, 0, 0, 0, 0⟩ ++ (cCp ⟨0, 0⟩ ++ (cBd bdZ ++
 ([.int .u8 0, .int .u8 0, .int .u64 0, .int .u64 0, .slice none 0 0, .slice none 0 0] ++ (cHd ⟨[], 0, false, false, 0, 0, false⟩ ++ ([.pointer none, .pointer none, .slice none 0 0] ++ ((List.replicate 8192 (0 : Int)).map (.int .u8) ++ ((List.replicate 127 (0 : Int)).map (.int .u8) ++ [.slice none 0 0]))))))))))))
def aQf {α : Type} : ∀ L : List α, (List.range L.length).filterMap (fun i => L[i]?) = L := fun L => by
 have key : ∀ n, n ≤ L.length → (List.range n).filterMap (fun i => L[i]?) = L.take n := fun n => by
  induction n with
  | zero => intro _; rfl
  | succ n ih => intro hn; rw [dq, List.filterMap_append, ih o_m, fk]; simp [am (show n < L.length by omega)]
 rw [key _ (ax _), di]
def St.perm_ix {w0 w : AI} {ms : AE} {L L' : aB} (n : Nat) (p : AE) (hp : p.Perm (List.range n)) (hn : L.length = n) (hl : L' = p.filterMap (fun i => L[i]?)) (hw : St w0 ms L w) : St w0 ms L' w := by
 subst hl hn
 refine hw.perm ?_
 have := (hp.filterMap (fun i => L[i]?)).symm
 rwa [aQf] at this
section
variable {m : Mm} (h : m.Wf)
include h
def sU : (fY m).length = 39890 + m.ram.length := by
 unfold fY
 rw [La_, La_, aAF h, aAS h.u.wf]; omega
def aD0 (m : Mm) (l : AB) : Mm := { aHX m l with u := aEd (l.drop (8482 + m.ram.length)) }
variable {l : AB} (hb : aY l) (hl : l.length = (fY m).length)
include hl
include hb
end
def aH6 {m : Mm} {l : AB} (h : l.length = (fY m).length) (hd : aEY (l.drop (8482 + m.ram.length)) = 0) (he : fY (aD0 m l) = l) : 0 = aAu m l := by
 unfold aAu; rw [if_neg o_m, if_pos ⟨hd, he⟩]
def aJv {m : Mm} {l : AB} (h : 0 = aAu m l) : aIm m l = { aD0 m l with acc := [] } := by unfold aIm; rw [if_pos h.symm]; rfl
structure Ad.Kept (A A' : Ad) : Prop where
 mb : A'.mb = A.mb
 ub : A'.ub = A.ub
 ob : A'.ob = A.ob
 oc : A'.oc = A.oc
 sp : A'.sp = A.sp
 plan : A'.plan = A.plan
 tab : A'.tab = A.tab
def chkH (rom : AB) : Nat → Int
 | 0 => 0
 | i + 1 => (chkH rom i - (rom.getD (308 + i) 0 + 1)) % 256
def yU (rom : AB) : Nat → Int
 | 0 => 0
 | i + 1 => (yU rom i + rom.getD i 0) % 65536
def aG9 (rom : AB) : Int := (yU rom rom.length - rom.getD 334 0 - rom.getD 335 0) % 65536
def zW (rom : AB) (i : Nat) : 0 ≤ chkH rom i ∧ chkH rom i < 256 := by cases i with
 | zero => exact ⟨gi 0, (by decide : (0 : Int) < 256)⟩
 | succ i => unfold chkH; omega
def aGK (rom : AB) (i : Nat) : 0 ≤ yU rom i ∧ yU rom i < 65536 := by cases i with
 | zero => exact ⟨gi 0, (by decide : (0 : Int) < 65536)⟩
 | succ i => unfold yU; omega
abbrev Srt := Int × Bool × Bool
def fZ : List (Int × Srt) := [(0, 0, false, false), (8, 0, false, false), (9, 0, false, true), (1, 1, false, false), (2, 1, false, false), (3, 1, false, true), (5, 2, false, false), (6, 2, false, true), (15, 3, true, true), (16, 3, true, true), (17, 3, false, false), (18, 3, false, false), (19, 3, false, true),
 (25, 5, false, false), (26, 5, false, false), (27, 5, false, true), (28, 5, false, false), (29, 5, false, false), (30, 5, false, true)]
def cSrt (s : Srt) : AA := [.int .i64 s.1, .bool s.2.1, .bool s.2.2]
def gF : List (Int × Srt) → Nat → List Ent
 | [], _ => []
 | s :: l, i => (s.1, .agg (cSrt s.2).toArray, i) :: gF l (i + 1)
def sortE : List Ent := gF fZ 0
def aAb (b : Int) : List (Int × Srt) → Option Srt
 | [] => none
 | s :: l => if b = s.1 then some s.2 else aAb b l
def sortH (b : Int) : Option Srt := aAb b fZ
def aNH (o : Option Srt) : Array AH := #[.agg (cSrt (o.getD (0, false, false))).toArray, .bool o.isSome]
def aCR (b : Int) : ∀ (l : List (Int × Srt)) (i j : Nat), aEe (.agg (cSrt (0, false, false)).toArray) (gP b (gF l i) j) = aNH (aAb b l)
 | [], _, _ => rfl
 | s :: l, i, j => by
  unfold gF gP aAb
  by_cases h : b = s.1
  ·rw [if_pos h, if_pos h]; rfl
  ·rw [if_neg h, if_neg h]; exact aCR b l (i + 1) (j + 1)
def sort_ask (b : Int) : aEe (.agg (cSrt (0, false, false)).toArray) (gP b sortE 0) = aNH (sortH b) := aCR b fZ 0 0
def sizesH : AB := [0, 2048, 8192, 32768, 131072, 65536]
def aDb {b : Int} {s : Srt} : ∀ {l : List (Int × Srt)}, aAb b l = some s → (b, s) ∈ l
 | [], h => by cases h
 | x :: l, h => by
  unfold aAb at h
  split at h
  ·rename_i h1; cases h; rw [h1]; exact .head _
  ·exact .tail _ (aDb h)
def aHC {b : Int} {s : Srt} (h : sortH b = some s) : 0 ≤ s.1 ∧ s.1 < 256 := by
 have key : ∀ x ∈ fZ, 0 ≤ x.2.1 ∧ x.2.1 < 256 := by decide
 exact key _ (aDb h)
def chrH (c : Int) : UInt8 := if c < 32 ∨ 126 < c then 63 else c.toNat.toUInt8
def nameH : AB → List UInt8
 | [] => []
 | c :: l => if c = 0 then [] else chrH c :: nameH l
def wU (kind n : Int) : Int := if kind = 2 then 512 else if n = 0 then 0 else if n = 1 then 2048 else if n = 2 then 8192 else if n = 3 then 32768 else if n = 4 then 131072 else 65536
def errH (rom : AB) : Int :=
 if rom.length < 336 then 2 else if rom.getD 333 0 ≠ chkH rom 25 then 4 else match sortH (rom.getD 327 0) with
  | none => 5
  | some _ => if 8 < rom.getD 328 0 ∨ 6 ≤ rom.getD 329 0 then 7 else if (rom.length : Int) ≠ 32768 * 2 ^ (rom.getD 328 0).toNat then 6 else 0
def hdH (rom : AB) : Hd :=
 let s := (sortH (rom.getD 327 0)).getD (0, false, false)
 ⟨nameH ((rom.drop 308).take 15), s.1, s.2.1, s.2.2, 2 * 2 ^ (rom.getD 328 0).toNat, wU s.1 (rom.getD 329 0), rom.getD 334 0 * 256 + rom.getD 335 0 == aG9 rom⟩
def zHd : Hd := ⟨[], 0, false, false, 0, 0, false⟩
def aE0 {c n : Int} (hc : c = 2 ∨ c = 32768) (hn : 0 ≤ n ∧ n ≤ 8) : shl .i64 c n = c * 2 ^ n.toNat := by
 rcases (show n = 0 ∨ n = 1 ∨ n = 2 ∨ n = 3 ∨ n = 4 ∨ n = 5 ∨ n = 6 ∨ n = 7 ∨ n = 8 by omega) with rfl | rfl | rfl | rfl | rfl | rfl | rfl | rfl | rfl <;> rcases hc with rfl | rfl <;> decide
def aHb {l : AB} : ∀ {i : Nat}, (∀ j, j < i → l.getD j 0 ≠ 0) → i < l.length → l.getD i 0 = 0 → nameH l = (l.take i).map chrH := by
 induction l with
 | nil => intro i _ hi _; simp at hi
 | cons c l ih =>
  intro i hj hi h0
  cases i with
  | zero => have : c = 0 := h0; unfold nameH; rw [if_pos this]; rfl
  | succ i =>
   have h1 : c ≠ 0 := hj 0 o_m
   unfold nameH
   rw [if_neg h1, ih (i := i) (fun j hj' => hj (j + 1) o_m) (by simpa using hi) h0]
   rfl
def aKE {l : AB} (h : ∀ j, j < l.length → l.getD j 0 ≠ 0) : nameH l = l.map chrH := by
 induction l with
 | nil => rfl
 | cons c l ih =>
  have h1 : c ≠ 0 := h 0 y_v
  unfold nameH
  rw [if_neg h1, ih fun j hj => h (j + 1) (by simpa using hj)]; rfl
def aL0 {c : Int} (h : 0 ≤ c ∧ c < 256) (hp : ¬ (c < 32 ∨ 126 < c)) : ((chrH c).toNat : Int) = c := by
 unfold chrH
 rw [if_neg hp]
 have : c.toNat < 256 := by omega
 rw [show (c.toNat.toUInt8).toNat = c.toNat from by simp [Nat.toUInt8, UInt8.toNat_ofNat]; omega]
 omega
def txV (l : List UInt8) : AA := l.map fun c => .int .u8 c.toNat
def aIZ {k n : Int} (hk : k ≠ 2) (hn : 0 ≤ n ∧ n < 6) : sizesH.getD n.toNat 0 = wU k n := by
 unfold wU
 rw [if_neg hk]
 rcases (show n = 0 ∨ n = 1 ∨ n = 2 ∨ n = 3 ∨ n = 4 ∨ n = 5 by omega) with rfl | rfl | rfl | rfl | rfl | rfl <;> rfl
def aNY (kind n : Int) : 0 ≤ wU kind n ∧ wU kind n ≤ 131072 := by unfold wU; constructor <;> (repeat' split) <;> decide
structure Pl where
 at_ : Int
 by_ : Int
 many : Int
 kind : Int
 size : Int
 x : AH
def cPl (p : Pl) : AA := [.int .i64 p.at_, .int .i64 p.by_, .int .i64 p.many, .int .i64 p.kind, .int .i64 p.size, p.x]
def aGz (p : Pl) : (cPl p).length = 6 := rfl
def aRE (G : aB) (p : Pl) (q : Pq) : Prop := p.at_ = q.at_ ∧ p.by_ = q.by_ ∧ p.many = q.many ∧ p.kind = q.kind ∧ p.size = q.size ∧ match q.x with
 | none => p.x = .slice none 0 0
 | some xs => ∃ b, p.x = .slice (Q_ b) xs.length xs.length ∧ VV.RowsIn G b 0 (xs.map (Value.int .i64))
def aAf (G : aB) : List Pl → List Pq → Prop
 | [], [] => True
 | p :: ps, q :: qs => aRE G p q ∧ aAf G ps qs
 | _, _ => False
def aAf.get {G : aB} : ∀ {ps : List Pl} {qs : List Pq} {k : Nat} {q : Pq}, aAf G ps qs → qs[k]? = some q → ∃ p, ps[k]? = some p ∧ aRE G p q
 | [], [], _, _, _, h => by simp at h
 | p :: ps, q :: qs, 0, _, h, h1 => by
  simp only [dt, Option.some.injEq] at h1
  subst h1
  exact ⟨p, rfl, h.1⟩
 | p :: ps, q :: qs, k + 1, _, h, h1 => by
  rw [dk] at h1
  rw [dk]
  exact aAf.get h.2 h1
 | _ :: _, [], _, _, h, _ => h.elim
 | [], _ :: _, _, _, h, _ => h.elim
def kY {G : aB} {b : Nat} {xs : AA} {T : AJ} (h : (b, blk xs T) ∈ G) : VV.RowsIn G b 0 xs := fun w hw => Row.all (w := w) (b := b) (hw _ h)
def plL (b4 b5 b6 b10 b48 b59 b65 : Nat) : List Pl := [⟨0, 1, 1, 1, 1, .slice none 0 0⟩, ⟨8, 1, 1, 40, 3, .slice none 0 0⟩, ⟨16, 1, 1, 2, 2, .slice none 0 0⟩, ⟨24, 1, 1, 23, 2, .slice (Q_ b10) 1 1⟩, ⟨32, 8, 4, 23, 2, .slice (Q_ b5) 4 4⟩, ⟨1, 16, 4, 9, 3, .slice (Q_ b5) 4 4⟩, ⟨9, 16, 4, 16, 1, .slice (Q_ b5) 4 4⟩, ⟨2, 16, 4, 33, 1, .slice (Q_ b5) 4 4⟩, ⟨10, 16, 4, 32, 1, .slice (Q_ b5) 4 4⟩, ⟨3, 16, 4, 14, 1, .slice (Q_ b5) 4 4⟩, ⟨11, 16, 4, 15, 1, .slice (Q_ b5) 4 4⟩, ⟨4, 8, 8, 12, 1, .slice (Q_ b4) 8 8⟩, ⟨5, 8, 8, 13, 1, .slice (Q_ b4) 8 8⟩, ⟨6, 8, 8, 8, 2, .slice (Q_ b4) 8 8⟩, ⟨7, 8, 4, 18, 1, .slice (Q_ b5) 4 4⟩, ⟨39, 1, 1, 19, 1, .slice none 0 0⟩, ⟨47, 1, 1, 20, 1, .slice none 0 0⟩, ⟨55, 1, 1, 21, 1, .slice none 0 0⟩, ⟨63, 1, 1, 22, 1, .slice none 0 0⟩, ⟨192, 8, 4, 26, 1, .slice (Q_ b5) 4 4⟩, ⟨224, 1, 1, 35, 2, .slice none 0 0⟩, ⟨232, 1, 1, 41, 2, .slice none 0 0⟩, ⟨240, 1, 1, 34, 2, .slice none 0 0⟩, ⟨248, 1, 1, 42, 2, .slice none 0 0⟩, ⟨193, 16, 4, 31, 1, .slice (Q_ b6) 4 4⟩, ⟨197, 16, 4, 30, 1, .slice (Q_ b6) 4 4⟩, ⟨201, 1, 1, 26, 1, .slice (Q_ b48) 1 1⟩, ⟨217, 1, 1, 27, 1, .slice none 0 0⟩, ⟨233, 1, 1, 29, 1, .slice none 0 0⟩, ⟨249, 1, 1, 43, 1, .slice none 0 0⟩, ⟨194, 8, 4, 24, 3, .slice (Q_ b5) 4 4⟩, ⟨226, 1, 1, 37, 1, .slice none 0 0⟩, ⟨234, 1, 1, 39, 3, .slice none 0 0⟩, ⟨242, 1, 1, 36, 1, .slice none 0 0⟩, ⟨250, 1, 1, 38, 3, .slice none 0 0⟩, ⟨195, 1, 1, 24, 3, .slice (Q_ b59) 1 1⟩, ⟨243, 1, 1, 5, 1, .slice none 0 0⟩, ⟨251, 1, 1, 6, 1, .slice none 0 0⟩, ⟨196, 8, 4, 25, 3, .slice (Q_ b5) 4 4⟩, ⟨205, 1, 1, 25, 3, .slice (Q_ b65) 1 1⟩, ⟨198, 8, 8, 11, 2, .slice (Q_ b4) 8 8⟩]
def aRC {G : aB} {b4 b5 b6 b10 b48 b59 b65 : Nat} (r4 : VV.RowsIn G b4 0 (([0, 1, 2, 3, 4, 5, 6, 7] : AB).map (Value.int .i64))) (r5 : VV.RowsIn G b5 0 (([0, 1, 2, 3] : AB).map (Value.int .i64)))
  (r6 : VV.RowsIn G b6 0 (([0, 1, 2, 4] : AB).map (Value.int .i64))) (r10 : VV.RowsIn G b10 0 (([4] : AB).map (Value.int .i64))) (r48 : VV.RowsIn G b48 0 (([4] : AB).map (Value.int .i64)))
  (r59 : VV.RowsIn G b59 0 (([4] : AB).map (Value.int .i64))) (r65 : VV.RowsIn G b65 0 (([4] : AB).map (Value.int .i64))) : aAf G (plL b4 b5 b6 b10 b48 b59 b65) PL :=
 ⟨⟨rfl, rfl, rfl, rfl, rfl, rfl⟩, ⟨rfl, rfl, rfl, rfl, rfl, rfl⟩, ⟨rfl, rfl, rfl, rfl, rfl, rfl⟩, ⟨rfl, rfl, rfl, rfl, rfl, b10, rfl, r10⟩, ⟨rfl, rfl, rfl, rfl, rfl, b5, rfl, r5⟩, ⟨rfl, rfl, rfl, rfl, rfl, b5, rfl, r5⟩, ⟨rfl, rfl, rfl, rfl, rfl, b5, rfl, r5⟩, ⟨rfl, rfl, rfl, rfl, rfl, b5, rfl, r5⟩, ⟨rfl, rfl, rfl, rfl, rfl, b5, rfl, r5⟩, ⟨rfl, rfl, rfl, rfl, rfl, b5, rfl, r5⟩, ⟨rfl, rfl, rfl, rfl, rfl, b5, rfl, r5⟩, ⟨rfl, rfl, rfl, rfl, rfl, b4, rfl, r4⟩, ⟨rfl, rfl, rfl, rfl, rfl, b4, rfl, r4⟩, ⟨rfl, rfl, rfl, rfl, rfl, b4, rfl, r4⟩, ⟨rfl, rfl, rfl, rfl, rfl, b5, rfl, r5⟩, ⟨rfl, rfl, rfl, rfl, rfl, rfl⟩, ⟨rfl, rfl, rfl, rfl, rfl, rfl⟩, ⟨rfl, rfl, rfl, rfl, rfl, rfl⟩, ⟨rfl, rfl, rfl, rfl, rfl, rfl⟩, ⟨rfl, rfl, rfl, rfl, rfl, b5, rfl, r5⟩, ⟨rfl, rfl, rfl, rfl, rfl, rfl⟩, ⟨rfl, rfl, rfl, rfl, rfl, rfl⟩, ⟨rfl, rfl, rfl, rfl, rfl, rfl⟩, ⟨rfl, rfl, rfl, rfl, rfl, rfl⟩, ⟨rfl, rfl, rfl, rfl, rfl, b6, rfl, r6⟩, ⟨rfl, rfl, rfl, rfl, rfl, b6, rfl, r6⟩, ⟨rfl, rfl, rfl, rfl, rfl, b48, rfl, r48⟩, ⟨rfl, rfl, rfl, rfl, rfl, rfl⟩, ⟨rfl, rfl, rfl, rfl, rfl, rfl⟩, ⟨rfl, rfl, rfl, rfl, rfl, rfl⟩, ⟨rfl, rfl, rfl, rfl, rfl, b5, rfl, r5⟩, ⟨rfl, rfl, rfl, rfl, rfl, rfl⟩, ⟨rfl, rfl, rfl, rfl, rfl, rfl⟩, ⟨rfl, rfl, rfl, rfl, rfl, rfl⟩, ⟨rfl, rfl, rfl, rfl, rfl, rfl⟩, ⟨rfl, rfl, rfl, rfl, rfl, b59, rfl, r59⟩, ⟨rfl, rfl, rfl, rfl, rfl, rfl⟩, ⟨rfl, rfl, rfl, rfl, rfl, rfl⟩, ⟨rfl, rfl, rfl, rfl, rfl, b5, rfl, r5⟩, ⟨rfl, rfl, rfl, rfl, rfl, b65, rfl, r65⟩, ⟨rfl, rfl, rfl, rfl, rfl, b4, rfl, r4⟩, trivial⟩
def aOO (b4 b5 b6 b10 b48 b59 b65 : Nat) : (plL b4 b5 b6 b10 b48 b59 b65).length = 41 := rfl
def aK5 {q : Pq} (h : q.x = none) (i : Nat) : qOp q i = ⟨q.kind, 0, 0, q.size, 0⟩ := by unfold qOp; rw [h]
def aMH {q : Pq} {x : AB} (h : q.x = some x) (i : Nat) : qOp q i = ⟨q.kind, x.getD i 0, 0, q.size, 0⟩ := by unfold qOp; rw [h]
def aRZ (m : Nat) (h : m < 4) : ([.int .i64 17, .int .i64 44, .int .i64 45, .int .i64 46] : AA)[m]? = some (.int .i64 (([17, 44, 45, 46] : AB).getD m 0)) := by
 match m, h with
 | 0, _ => rfl
 | 1, _ => rfl
 | 2, _ => rfl
 | 3, _ => rfl
def aRu (m : Nat) (h : m < 4) : ([.int .i64 17, .int .i64 44, .int .i64 45, .int .i64 46] : AA)[0 + m * 1]? = some (.int .i64 (([17, 44, 45, 46] : AB).getD m 0)) := by
 rw [az, eo]; exact aRZ m h
def aCA {i k : Nat} (h : k ≤ 64) : shr .i64 (i : Int) (k : Int) = ((i / 2 ^ k : Nat) : Int) := by
 unfold shr
 have e1 : min (k : Int).toNat IntKind.i64.bits = k := by
  have : IntKind.i64.bits = 64 := rfl
  rw [this]; omega
 rw [e1, dv _ (g5 (fe y_b))]
 simp
def aRJ {m : Nat} (h : m < 1000000) : aG .i64 (m : Int) 7 = ((m % 8 : Nat) : Int) := by
 unfold aG
 have h1 : (BitVec.ofInt IntKind.i64.bits (m : Int) &&& BitVec.ofInt IntKind.i64.bits 7).toNat = m % 8 := by
  have e1 : BitVec.ofInt IntKind.i64.bits (m : Int) = BitVec.ofNat 64 m := by simp [IntKind.bits]
  have e2 : BitVec.ofInt IntKind.i64.bits 7 = BitVec.ofNat 64 7 := rfl
  rw [e1, e2]
  have e3 : (BitVec.ofNat 64 m &&& BitVec.ofNat 64 7).toNat = (m % 18446744073709551616) &&& 7 := by simp
  have e4 : (m % 18446744073709551616) &&& 7 = m % 18446744073709551616 % 8 := dx _ 3
  exact e3.trans (by rw [e4]; omega)
 rw [h1, aI o_m o_m]
set_option maxHeartbeats 4000000 in
def aMB (w : AI) :
  aC prog 62 [] w [] (fun v H => ∃ b L G, v = .slice (Q_ b) 41 41 ∧ H = (b, blk (aE cPl L) 190) :: G ∧ L.length = 41 ∧ aAf G L PL) := by
 refine dR_ func62 ?_
 refine A_6 ?_
 refine RX (bX (z := [.int .i64 0]) (l := [.int .i64 0, .int .i64 1, .int .i64 2, .int .i64 3, .int .i64 4, .int .i64 5, .int .i64 6, .int .i64 7]) (ps := [(0, .int .i64 0), (1, .int .i64 1), (2, .int .i64 2), (3, .int .i64 3), (4, .int .i64 4), (5, .int .i64 5), (6, .int .i64 6), (7, .int .i64 7)]) rfl rfl rfl rfl y_i y_i) rfl ?_
 rintro _ _ ⟨b4, rfl, rfl⟩
 refine A_4 ?_
 refine RX (bX (z := [.int .i64 0]) (l := [.int .i64 0, .int .i64 1, .int .i64 2, .int .i64 3]) (ps := [(0, .int .i64 0), (1, .int .i64 1), (2, .int .i64 2), (3, .int .i64 3)]) rfl rfl rfl rfl y_i y_i) rfl ?_
 rintro _ _ ⟨b5, rfl, rfl⟩
 refine RX (bX (z := [.int .i64 0]) (l := [.int .i64 0, .int .i64 1, .int .i64 2, .int .i64 4]) (ps := [(0, .int .i64 0), (1, .int .i64 1), (2, .int .i64 2), (3, .int .i64 4)]) rfl rfl rfl rfl y_i y_i) rfl ?_
 rintro _ _ ⟨b6, rfl, rfl⟩
 refine A_5 ?_
 refine RS ?_
 refine RS ?_
 refine RS ?_
 refine RX (bX rfl rfl rfl rfl rfl rfl) rfl ?_
 rintro _ _ ⟨b10, rfl, rfl⟩
 refine RS ?_
 refine A_1 ?_
 refine RS ?_
 refine A_1 ?_
 refine RS ?_
 refine A_1 ?_
 refine RS ?_
 refine A_1 ?_
 refine RS ?_
 refine A_1 ?_
 refine RS ?_
 refine A_1 ?_
 refine RS ?_
 refine A_1 ?_
 refine RS ?_
 refine A_1 ?_
 refine RS ?_
 refine A_1 ?_
 refine RS ?_
 refine A_1 ?_
 refine RS ?_
 refine A_1 ?_
 refine RS ?_
 refine RS ?_
 refine RS ?_
 refine RS ?_
 refine RS ?_
 refine A_1 ?_
 refine RS ?_
 refine RS ?_
 refine RS ?_
 refine RS ?_
 refine RS ?_
 refine A_1 ?_
 refine RS ?_
 refine A_1 ?_
 refine RS ?_
 refine RX (bX rfl rfl rfl rfl rfl rfl) rfl ?_
 rintro _ _ ⟨b48, rfl, rfl⟩
 refine RS ?_
 refine RS ?_
 refine RS ?_
 refine RS ?_
 refine A_1 ?_
 refine RS ?_
 refine RS ?_
 refine RS ?_
 refine RS ?_
 refine RS ?_
 refine RX (bX rfl rfl rfl rfl rfl rfl) rfl ?_
 rintro _ _ ⟨b59, rfl, rfl⟩
 refine RS ?_
 refine RS ?_
 refine RS ?_
 refine A_1 ?_
 refine RS ?_
 refine RX (bX rfl rfl rfl rfl rfl rfl) rfl ?_
 rintro _ _ ⟨b65, rfl, rfl⟩
 refine RS ?_
 refine A_1 ?_
 refine RS ?_
 refine RX (bX (z := cPl ⟨0, 0, 0, 0, 0, .slice none 0 0⟩) (l := aE cPl (plL b4 b5 b6 b10 b48 b59 b65)) (ps := [(0, .agg (cPl ((plL b4 b5 b6 b10 b48 b59 b65).getD 0 ⟨0, 0, 0, 0, 0, undef⟩)).toArray), (1, .agg (cPl ((plL b4 b5 b6 b10 b48 b59 b65).getD 1 ⟨0, 0, 0, 0, 0, undef⟩)).toArray), (2, .agg (cPl ((plL b4 b5 b6 b10 b48 b59 b65).getD 2 ⟨0, 0, 0, 0, 0, undef⟩)).toArray), (3, .agg (cPl ((plL b4 b5 b6 b10 b48 b59 b65).getD 3 ⟨0, 0, 0, 0, 0, undef⟩)).toArray), (4, .agg (cPl ((plL b4 b5 b6 b10 b48 b59 b65).getD 4 ⟨0, 0, 0, 0, 0, undef⟩)).toArray), (5, .agg (cPl ((plL b4 b5 b6 b10 b48 b59 b65).getD 5 ⟨0, 0, 0, 0, 0, undef⟩)).toArray), (6, .agg (cPl ((plL b4 b5 b6 b10 b48 b59 b65).getD 6 ⟨0, 0, 0, 0, 0, undef⟩)).toArray), (7, .agg (cPl ((plL b4 b5 b6 b10 b48 b59 b65).getD 7 ⟨0, 0, 0, 0, 0, undef⟩)).toArray), (8, .agg (cPl ((plL b4 b5 b6 b10 b48 b59 b65).getD 8 ⟨0, 0, 0, 0, 0, undef⟩)).toArray), (9, .agg (cPl ((plL b4 b5 b6 b10 b48 b59 b65).getD 9 ⟨0, 0, 0, 0, 0, undef⟩)).toArray), (10, .agg (cPl ((plL b4 b5 b6 b10 b48 b59 b65).getD 10 ⟨0, 0, 0, 0, 0, undef⟩)).toArray), (11, .agg (cPl ((plL b4 b5 b6 b10 b48 b59 b65).getD 11 ⟨0, 0, 0, 0, 0, undef⟩)).toArray), (12, .agg (cPl ((plL b4 b5 b6 b10 b48 b59 b65).getD 12 ⟨0, 0, 0, 0, 0, undef⟩)).toArray), (13, .agg (cPl ((plL b4 b5 b6 b10 b48 b59 b65).getD 13 ⟨0, 0, 0, 0, 0, undef⟩)).toArray), (14, .agg (cPl ((plL b4 b5 b6 b10 b48 b59 b65).getD 14 ⟨0, 0, 0, 0, 0, undef⟩)).toArray), (15, .agg (cPl ((plL b4 b5 b6 b10 b48 b59 b65).getD 15 ⟨0, 0, 0, 0, 0, undef⟩)).toArray), (16, .agg (cPl ((plL b4 b5 b6 b10 b48 b59 b65).getD 16 ⟨0, 0, 0, 0, 0, undef⟩)).toArray), (17, .agg (cPl ((plL b4 b5 b6 b10 b48 b59 b65).getD 17 ⟨0, 0, 0, 0, 0, undef⟩)).toArray), (18, .agg (cPl ((plL b4 b5 b6 b10 b48 b59 b65).getD 18 ⟨0, 0, 0, 0, 0, undef⟩)).toArray), (19, .agg (cPl ((plL b4 b5 b6 b10 b48 b59 b65).getD 19 ⟨0, 0, 0, 0, 0, undef⟩)).toArray), (20, .agg (cPl ((plL b4 b5 b6 b10 b48 b59 b65).getD 20 ⟨0, 0, 0, 0, 0, undef⟩)).toArray), (21, .agg (cPl ((plL b4 b5 b6 b10 b48 b59 b65).getD 21 ⟨0, 0, 0, 0, 0, undef⟩)).toArray), (22, .agg (cPl ((plL b4 b5 b6 b10 b48 b59 b65).getD 22 ⟨0, 0, 0, 0, 0, undef⟩)).toArray), (23, .agg (cPl ((plL b4 b5 b6 b10 b48 b59 b65).getD 23 ⟨0, 0, 0, 0, 0, undef⟩)).toArray), (24, .agg (cPl ((plL b4 b5 b6 b10 b48 b59 b65).getD 24 ⟨0, 0, 0, 0, 0, undef⟩)).toArray), (25, .agg (cPl ((plL b4 b5 b6 b10 b48 b59 b65).getD 25 ⟨0, 0, 0, 0, 0, undef⟩)).toArray), (26, .agg (cPl ((plL b4 b5 b6 b10 b48 b59 b65).getD 26 ⟨0, 0, 0, 0, 0, undef⟩)).toArray), (27, .agg (cPl ((plL b4 b5 b6 b10 b48 b59 b65).getD 27 ⟨0, 0, 0, 0, 0, undef⟩)).toArray), (28, .agg (cPl ((plL b4 b5 b6 b10 b48 b59 b65).getD 28 ⟨0, 0, 0, 0, 0, undef⟩)).toArray), (29, .agg (cPl ((plL b4 b5 b6 b10 b48 b59 b65).getD 29 ⟨0, 0, 0, 0, 0, undef⟩)).toArray), (30, .agg (cPl ((plL b4 b5 b6 b10 b48 b59 b65).getD 30 ⟨0, 0, 0, 0, 0, undef⟩)).toArray), (31, .agg (cPl ((plL b4 b5 b6 b10 b48 b59 b65).getD 31 ⟨0, 0, 0, 0, 0, undef⟩)).toArray), (32, .agg (cPl ((plL b4 b5 b6 b10 b48 b59 b65).getD 32 ⟨0, 0, 0, 0, 0, undef⟩)).toArray), (33, .agg (cPl ((plL b4 b5 b6 b10 b48 b59 b65).getD 33 ⟨0, 0, 0, 0, 0, undef⟩)).toArray), (34, .agg (cPl ((plL b4 b5 b6 b10 b48 b59 b65).getD 34 ⟨0, 0, 0, 0, 0, undef⟩)).toArray), (35, .agg (cPl ((plL b4 b5 b6 b10 b48 b59 b65).getD 35 ⟨0, 0, 0, 0, 0, undef⟩)).toArray), (36, .agg (cPl ((plL b4 b5 b6 b10 b48 b59 b65).getD 36 ⟨0, 0, 0, 0, 0, undef⟩)).toArray), (37, .agg (cPl ((plL b4 b5 b6 b10 b48 b59 b65).getD 37 ⟨0, 0, 0, 0, 0, undef⟩)).toArray), (38, .agg (cPl ((plL b4 b5 b6 b10 b48 b59 b65).getD 38 ⟨0, 0, 0, 0, 0, undef⟩)).toArray), (39, .agg (cPl ((plL b4 b5 b6 b10 b48 b59 b65).getD 39 ⟨0, 0, 0, 0, 0, undef⟩)).toArray), (40, .agg (cPl ((plL b4 b5 b6 b10 b48 b59 b65).getD 40 ⟨0, 0, 0, 0, 0, undef⟩)).toArray)]) rfl (by rfl) rfl rfl y_i y_i) rfl ?_
 rintro _ _ ⟨b69, rfl, rfl⟩
 refine A_3 ?_
 exact EV rfl sR_ ⟨_, _, _, rfl, rfl, aOO .., aRC (kY m_m) (kY m_m) (kY m_m) (kY m_m) (kY m_m) (kY m_m) (kY m_m)⟩
def aPO {i : Nat} (h : i / 64 = 1) : p1 i = ⟨7, ((i / 8 % 8 : Nat) : Int), ((i % 8 : Nat) : Int), 1, 0⟩ := by unfold p1; rw [if_pos h]
def aQI {i : Nat} (h : i / 64 = 2) : p1 i = ⟨10, ((i / 8 % 8 : Nat) : Int), ((i % 8 : Nat) : Int), 1, 0⟩ := by unfold p1; rw [if_neg o_m, if_pos h]
def aRH {i : Nat} (h : ¬ i / 64 = 1) (h2 : ¬ i / 64 = 2) : p1 i = ⟨4, 0, 0, 1, 0⟩ := by unfold p1; rw [if_neg h, if_neg h2]
def aN7 (b : Nat) (u1 u2 u3 : AH) (P B : List Opr) (hP0 : P.length = 256) (hB0 : B.length = 256) (w : AI) (hb : w.heap[b]? = some (blk (gU u1 u2 u3 P B) 97)) :
  aC prog 33 [P_ b] w [b] (fun v H => v = .tuple #[] ∧ H = [(b, blk (gU u1 u2 u3 kW tabB) 97)]) := by
 refine mH func33 rfl rfl rfl (St.lent1 hb) ?_
 refine A_6 ?_
 refine bG (σ := Nat × List Opr × List Opr) [2, 3, 4, 10, 11, 12, 13, 14, 15, 16, 17, 18, 19, 20, 21, 22, 23, 24, 25, 26, 27, 28, 29, 30, 31, 32, 33, 34, 35, 36, 37, 38, 39, 40, 41, 42, 43, 44, 45, 46, 47, 48, 49, 50, 51, 52, 53, 54, 55, 56, 57, 58, 59] (fun s => [(10, .int .i64 s.1)]) (fun s => [(b, blk (gU u1 u2 u3 s.2.1 s.2.2) 97)]) (fun s => s.1 ≤ 256 ∧ oG p1 s.2.1 s.1 ∧ oG b1 s.2.2 s.1) (fun s => 256 - s.1) (0, P, B) ?_ ?_ ?_ ?_
 ·exact ⟨aj _, .start _ hP0, .start _ hB0⟩
 ·exact .cons rfl .nil
 ·exact fun _ h => h
 rintro ⟨i, P, B⟩ y1 ⟨hi, hF, hG⟩
 dsimp only at hi hF hG ⊢
 refine A_5 ?_
 refine KC (fun h1 h1n => ?_) (fun h1 h1n => ?_)
 ·refine A_9 ?_
  have hi' : i < 256 := by (try simp only [decide_eq_true_eq, decide_eq_false_iff_not, beq_iff_eq, beq_eq_false_iff_ne, bne_iff_ne, bne_eq_false_iff_eq, ne_eq] at *); omega
  have hP := hF.len
  have hB := hG.len
  refine A_3 ?_
  refine RS ?_
  refine A_2 ?_
  refine RY (bT (s := 5) i rfl rfl rfl rfl y_a) rfl (RZ (cQ (vs := cO ⟨4, 0, 0, 1, 0⟩) 0 rfl rfl rfl rfl rfl rfl y_bI) rfl ?_)
  simp only [ap, cn]
  rw [show 0 + 3 + i * 5 = 3 + i * 5 by omega, lX hP hi']
  refine A_2 ?_
  have hP : (P.set i ⟨4, 0, 0, 1, 0⟩).length = 256 := by rw [List.length_set]; exact hF.len
  refine A_2 ?_
  refine RW (v := (.int .i64 ((i / 8 : Nat) : Int))) (dK rfl rfl y_b) rfl (cA_ _ (aCA (k := 3) y_b)) (RW (v := (.int .i64 ((i / 8 % 8 : Nat) : Int))) rfl rfl (cA_ _ (aRJ o_m)) (A_1 ?_))
  refine RW (v := (.int .i64 ((i % 8 : Nat) : Int))) rfl rfl (cA_ _ (aRJ o_m)) (A_4 ?_)
  refine DR [] (pln [0, 2, 6, 8, 14, 16, 20, 22, 5, 10, 13, 18, 24, 27]) ?_
  refine A_3 ?_
  refine DW (v := (.int .i64 ((i / 64 : Nat) : Int))) rfl (dK rfl rfl y_b) rfl (cA_ _ (aCA (k := 6) y_b)) (A_4 ?_)
  refine DX rfl (bX (z := [.int .i64 0]) (l := [.int .i64 17, .int .i64 44, .int .i64 45, .int .i64 46]) (ps := [(0, .int .i64 17), (1, .int .i64 44), (2, .int .i64 45), (3, .int .i64 46)]) rfl rfl rfl rfl y_i y_i) rfl n_h ?_
  rintro _ _ ⟨b26, rfl, rfl⟩
  refine DY rfl (bE (s := 1) (i / 64) rfl rfl rfl rfl o_m) rfl (DZ rfl (aH rfl rfl (aT (.head _) (aRu (i / 64) o_m))) rfl n_h (DY rfl (eB rfl rfl rfl rfl) rfl (DY rfl (bT (s := 5) i rfl rfl rfl rfl y_a) rfl ?_)))
  refine DZ rfl (cQ (vs := cO (b1 i)) 1 rfl rfl rfl rfl rfl rfl y_bI) rfl n_h ?_
  simp only [ap, cn]
  rw [show 0 + 1283 + i * 5 = 1283 + i * 5 by omega, aK0 hP hB hi']
  refine A_4 ?_
  refine RW (v := (.int .i64 ((i / 64 : Nat) : Int))) (dK rfl rfl y_b) rfl (cA_ _ (aCA (k := 6) y_b)) (A_7 ?_)
  refine KC (fun h2 h2n => ?_) (fun h2 h2n => ?_)
  ·have hB : (B.set i (b1 i)).length = 256 := by rw [List.length_set]; exact hG.len
   refine A_5 ?_
   refine RS ?_
   refine A_2 ?_
   refine RY (bT (s := 5) i rfl rfl rfl rfl y_a) rfl (RZ (cQ (vs := cO ⟨7, ((i / 8 % 8 : Nat) : Int), ((i % 8 : Nat) : Int), 1, 0⟩) 1 rfl rfl rfl rfl rfl rfl y_bI) rfl ?_)
   simp only [ap, cn]
   rw [show 0 + 3 + i * 5 = 3 + i * 5 by omega, lX hP hi', List.set_set]
   refine A_2 ?_
   refine RW (v := (.int .i64 ((i + 1 : Nat) : Int))) rfl rfl (cA_ _ (bB o_m)) (A_2 ?_)
   rw [← aPO (i := i) y_a]
   exact ⟨(i + 1, _, _), ⟨y_dB, hF.step hi', hG.step hi'⟩, y_dB, .cons rfl .nil, a_g, fun _ h => h.sub (ce _ _)⟩
  refine A_5 ?_
  refine KC (fun h3 h3n => ?_) (fun h3 h3n => ?_)
  ·have hB : (B.set i (b1 i)).length = 256 := by rw [List.length_set]; exact hG.len
   refine A_5 ?_
   refine RS ?_
   refine A_2 ?_
   refine RY (bT (s := 5) i rfl rfl rfl rfl y_a) rfl (RZ (cQ (vs := cO ⟨10, ((i / 8 % 8 : Nat) : Int), ((i % 8 : Nat) : Int), 1, 0⟩) 1 rfl rfl rfl rfl rfl rfl y_bI) rfl ?_)
   simp only [ap, cn]
   rw [show 0 + 3 + i * 5 = 3 + i * 5 by omega, lX hP hi', List.set_set]
   refine A_2 ?_
   refine RW (v := (.int .i64 ((i + 1 : Nat) : Int))) rfl rfl (cA_ _ (bB o_m)) (A_2 ?_)
   rw [← aQI (i := i) y_a]
   exact ⟨(i + 1, _, _), ⟨y_dB, hF.step hi', hG.step hi'⟩, y_dB, .cons rfl .nil, a_g, fun _ h => h.sub (ce _ _)⟩
  refine A_2 ?_
  refine RW (v := (.int .i64 ((i + 1 : Nat) : Int))) rfl rfl (cA_ _ (bB o_m)) (A_2 ?_)
  rw [← aRH (i := i) y_a y_a]
  exact ⟨(i + 1, _, _), ⟨y_dB, hF.step hi', hG.step hi'⟩, y_dB, .cons rfl .nil, a_g, fun _ h => h.sub (ce _ _)⟩
 refine A_2 ?_
 obtain rfl : 256 = i := by (try simp only [decide_eq_true_eq, decide_eq_false_iff_not, beq_iff_eq, beq_eq_false_iff_ne, bne_iff_ne, bne_eq_false_iff_eq, ne_eq] at *); omega
 obtain rfl := hF.all
 obtain rfl := hG.all
 have hP := hF.len
 have hB := hG.len
 refine A_2 ?_
 refine RS ?_
 refine A_2 ?_
 refine RY (bT (s := 5) 118 rfl rfl rfl rfl y_b) rfl (RZ (cQ (vs := cO ⟨3, 0, 0, 1, 0⟩) 0 rfl rfl rfl rfl rfl rfl y_bI) rfl ?_)
 simp only [ap]
 rw [show 0 + 3 + 118 * 5 = 3 + 118 * 5 from rfl, lX hP y_b]
 refine A_4 ?_
 refine RX (dE K_ rfl (wQ_ aMB)) rfl ?_
 rintro _ _ ⟨_, ⟨b65, L, GL, rfl, rfl, hLl, hok⟩, rfl⟩
 refine cE (H' := (b, blk (gU u1 u2 u3 lD tabB) 97) :: ((b65, blk (aE cPl L) 190) :: GL)) (fun _ h => St.fl [((b65, blk (aE cPl L) 190) :: GL), [_]] [1, 0] rfl h) ?_
 refine RY l_n rfl (A_3 ?_)
 refine bG (σ := Nat) [6, 7, 8, 67, 68, 69, 70, 71, 72, 73, 74, 75, 76, 77, 78, 79, 80, 81, 82, 83, 84, 85, 86, 87, 88, 89, 90, 91, 92, 93, 94, 95, 96, 97, 98, 99, 100, 101, 102, 103] (fun k => [(67, .int .i64 k)]) (fun k => (b, blk (gU u1 u2 u3 ((PL.take k).foldl putQ lD) tabB) 97) :: ((b65, blk (aE cPl L) 190) :: GL)) (fun k => k ≤ 41) (fun k => 41 - k) 0 ?_ ?_ ?_ ?_
 ·exact aj _
 ·exact .cons rfl .nil
 ·exact fun _ h => h
 intro k y14 hk
 refine A_5 ?_
 refine KC (fun h4 h4n => ?_) (fun h4 h4n => ?_)
 ·refine A_4 ?_
  obtain ⟨q, hq⟩ : ∃ q, PL[k]? = some q := ⟨_, tE (by rw [aRa]; (try simp only [decide_eq_true_eq, decide_eq_false_iff_not, beq_iff_eq, beq_eq_false_iff_ne, bne_iff_ne, bne_eq_false_iff_eq, ne_eq] at *); omega)⟩
  obtain ⟨⟨pa, pb, pm, pk, ps, px⟩, hp, e1, e2, e3, e4, e5, e6⟩ := hok.get hq
  dsimp only at e1 e2 e3 e4 e5 e6
  subst e1 e2 e3 e4 e5
  obtain ⟨hq1, hq2, hq3, hq4⟩ := aLE (aQm hq)
  have hP2 : ((PL.take k).foldl putQ lD).length = 256 := by rw [aC7, aBI]
  have e7 : (q.x = none ∧ px = .slice none 0 0) ∨ ∃ xs bx, q.x = some xs ∧ px = .slice (Q_ bx) xs.length xs.length ∧ VV.RowsIn GL bx 0 (xs.map (.int .i64)) := by
   cases hx : q.x with
   | none => rw [hx] at e6; exact .inl ⟨rfl, e6⟩
   | some xs => rw [hx] at e6; obtain ⟨bx, h1, h2⟩ := e6; exact .inr ⟨xs, bx, rfl, h1, h2⟩
  rcases e7 with ⟨hx, rfl⟩ | ⟨xs, bx, hx, rfl, hrx⟩
  ·refine A_1 ?_
   refine RY (bE (s := 6) k rfl rfl rfl rfl y_a) rfl (RZ (aL rfl rfl rfl (fun w hw => (aA (.tail _ (.head _)) w hw).nth' aGz hp)) rfl (RX (bY rfl) rfl ?_))
   rintro _ _ ⟨b6, rfl, rfl⟩
   refine RZ s_t rfl (A_8 ?_)
   refine bG (σ := Nat) [7, 8, 73, 74, 75, 76, 77, 78, 79, 80, 81, 82, 83, 84, 85, 86, 87, 88, 89, 90, 91, 92, 93, 94, 95, 96, 97, 98, 99, 100, 101, 102] (fun i => [(73, .int .i64 i)]) (fun i => (b, blk (gU u1 u2 u3 (uQ q ((PL.take k).foldl putQ lD) i) tabB) 97) :: (b6, blk (cPl ⟨q.at_, q.by_, q.many, q.kind, q.size, .slice none 0 0⟩) 190) :: ((b65, blk (aE cPl L) 190) :: GL)) (fun i => i ≤ q.many) (fun i => q.many - i) 0 ?_ ?_ ?_ ?_
   ·exact aj _
   ·exact .cons rfl .nil
   ·exact fun _ h => by simp only [aCJ]; exact St.fl [[_], [_], ((b65, blk (aE cPl L) 190) :: GL)] [1, 0, 2] rfl h
   intro i y17 hi
   refine A_5 ?_
   refine KC (fun h5 h5n => ?_) (fun h5 h5n => ?_)
   ·refine A_14 ?_
    refine RS ?_
    refine RX (bY rfl) rfl ?_
    rintro _ _ ⟨b8, rfl, rfl⟩
    refine RZ s_t rfl (A_6 ?_)
    refine dT false rfl rfl rfl rfl ?_
    refine A_3 ?_
    have hP : (uQ q ((PL.take k).foldl putQ lD) i).length = 256 := by rw [aAQ]; exact hP2
    refine DR [3, 4, 5, 6, 8, 9, 10] (pln [0, 2, 4, 6, 8, 10, 12, 14, 16, 18, 20, 22, 25]) ?_
    refine A_6 ?_
    refine DW (v := (.int .i64 ((q.by_ * i : Nat) : Int))) rfl rfl rfl (cA_ _ y_en) (DW (v := (.int .i64 ((q.at_ + q.by_ * i : Nat) : Int))) rfl rfl rfl (cA_ _ y_eq) (bU rfl rfl rfl rfl y_bl rfl rfl ?_))
    refine A_2 ?_
    refine DY rfl (bT (s := 5) (q.at_ + q.by_ * i) rfl rfl rfl rfl (hq1 i y_a)) rfl (DZ rfl (cQ (vs := cO (qOp q i)) 1 rfl rfl (by rw [aK5 hx]; rfl) rfl rfl rfl y_em) rfl n_h ?_)
    simp only [ap, cn]
    rw [show 0 + 3 + (q.at_ + q.by_ * i) * 5 = 3 + (q.at_ + q.by_ * i) * 5 by omega, lX hP (hq1 i y_a), ← zQ]
    refine A_2 ?_
    refine RW (v := (.int .i64 ((i + 1 : Nat) : Int))) rfl rfl (cA_ _ (bB o_m)) (A_2 ?_)
    exact ⟨i + 1, y_dB, y_dB, .cons rfl .nil, a_g, fun _ h => h.sub (ce _ _)⟩
   refine A_2 ?_
   refine RW (v := (.int .i64 ((k + 1 : Nat) : Int))) rfl rfl (cA_ _ (bB o_m)) (A_2 ?_)
   obtain rfl : q.many = i := by (try simp only [decide_eq_true_eq, decide_eq_false_iff_not, beq_iff_eq, beq_eq_false_iff_ne, bne_iff_ne, bne_eq_false_iff_eq, ne_eq] at *); omega
   exact ⟨k + 1, y_dB, y_dB, .cons rfl .nil, a_g, fun _ h => y_cY⟩
  refine A_1 ?_
  refine RY (bE (s := 6) k rfl rfl rfl rfl y_a) rfl (RZ (aL rfl rfl rfl (fun w hw => (aA (.tail _ (.head _)) w hw).nth' aGz hp)) rfl (RX (bY rfl) rfl ?_))
  rintro _ _ ⟨b6, rfl, rfl⟩
  refine RZ s_t rfl (A_8 ?_)
  refine bG (σ := Nat) [7, 8, 73, 74, 75, 76, 77, 78, 79, 80, 81, 82, 83, 84, 85, 86, 87, 88, 89, 90, 91, 92, 93, 94, 95, 96, 97, 98, 99, 100, 101, 102] (fun i => [(73, .int .i64 i)]) (fun i => (b, blk (gU u1 u2 u3 (uQ q ((PL.take k).foldl putQ lD) i) tabB) 97) :: (b6, blk (cPl ⟨q.at_, q.by_, q.many, q.kind, q.size, .slice (Q_ bx) xs.length xs.length⟩) 190) :: ((b65, blk (aE cPl L) 190) :: GL)) (fun i => i ≤ q.many) (fun i => q.many - i) 0 ?_ ?_ ?_ ?_
  ·exact aj _
  ·exact .cons rfl .nil
  ·exact fun _ h => by simp only [aCJ]; exact St.fl [[_], [_], ((b65, blk (aE cPl L) 190) :: GL)] [1, 0, 2] rfl h
  intro i y17 hi
  refine A_5 ?_
  refine KC (fun h6 h6n => ?_) (fun h6 h6n => ?_)
  ·refine A_14 ?_
   refine RS ?_
   refine RX (bY rfl) rfl ?_
   rintro _ _ ⟨b8, rfl, rfl⟩
   refine RZ s_t rfl (A_6 ?_)
   refine dT true rfl rfl rfl rfl ?_
   refine A_6 ?_
   refine RY (bE (s := 1) i rfl rfl rfl rfl y_bP) rfl (RZ (aH rfl rfl (fun w hw => by rw [eo]; exact (hrx.row (fun x hx => by repeat (first | exact hx | refine .tail _ ?_ | refine mR_ _ ?_)) w hw) i _ (aGG y_bP))) rfl ?_)
   refine A_1 ?_
   refine RZ s_t rfl (A_1 ?_)
   have hP : (uQ q ((PL.take k).foldl putQ lD) i).length = 256 := by rw [aAQ]; exact hP2
   refine DR [3, 4, 5, 6, 8, 9, 10] (pln [0, 2, 4, 6, 8, 10, 12, 14, 16, 18, 20, 22, 25]) ?_
   refine A_6 ?_
   refine DW (v := (.int .i64 ((q.by_ * i : Nat) : Int))) rfl rfl rfl (cA_ _ y_en) (DW (v := (.int .i64 ((q.at_ + q.by_ * i : Nat) : Int))) rfl rfl rfl (cA_ _ y_eq) (bU rfl rfl rfl rfl y_bl rfl rfl ?_))
   refine A_2 ?_
   refine DY rfl (bT (s := 5) (q.at_ + q.by_ * i) rfl rfl rfl rfl (hq1 i y_a)) rfl (DZ rfl (cQ (vs := cO (qOp q i)) 1 rfl rfl (by rw [aMH hx]; rfl) rfl rfl rfl y_em) rfl n_h ?_)
   simp only [ap, cn]
   rw [show 0 + 3 + (q.at_ + q.by_ * i) * 5 = 3 + (q.at_ + q.by_ * i) * 5 by omega, lX hP (hq1 i y_a), ← zQ]
   refine A_2 ?_
   refine RW (v := (.int .i64 ((i + 1 : Nat) : Int))) rfl rfl (cA_ _ (bB o_m)) (A_2 ?_)
   exact ⟨i + 1, y_dB, y_dB, .cons rfl .nil, a_g, fun _ h => h.sub (ce _ _)⟩
  refine A_2 ?_
  refine RW (v := (.int .i64 ((k + 1 : Nat) : Int))) rfl rfl (cA_ _ (bB o_m)) (A_2 ?_)
  obtain rfl : q.many = i := by (try simp only [decide_eq_true_eq, decide_eq_false_iff_not, beq_iff_eq, beq_eq_false_iff_ne, bne_iff_ne, bne_eq_false_iff_eq, ne_eq] at *); omega
  exact ⟨k + 1, y_dB, y_dB, .cons rfl .nil, a_g, fun _ h => y_cY⟩
 refine A_2 ?_
 obtain rfl : 41 = k := by (try simp only [decide_eq_true_eq, decide_eq_false_iff_not, beq_iff_eq, beq_eq_false_iff_ne, bne_iff_ne, bne_eq_false_iff_eq, ne_eq] at *); omega
 rw [show PL.take 41 = PL from rfl]
 have hQl : (PL.foldl putQ lD).length = 256 := by rw [aC7, aBI]
 obtain ⟨PQ, hPQ⟩ : ∃ X, PL.foldl putQ lD = X := ⟨_, rfl⟩
 rw [hPQ]
 rw [hPQ] at hQl
 refine A_4 ?_
 refine bG (σ := Nat) [9, 104, 105, 106, 107, 108, 109, 110, 111, 112, 113, 114, 115, 116, 117, 118] (fun y => [(104, .int .i64 y)]) (fun y => (b, blk (gU u1 u2 u3 (zL PQ y) tabB) 97) :: ((b65, blk (aE cPl L) 190) :: GL)) (fun y => y ≤ 8) (fun y => 8 - y) 0 ?_ ?_ ?_ ?_
 ·exact aj _
 ·exact .cons rfl .nil
 ·exact fun _ h => by simp only [aKR]; exact h
 intro y y26 hy
 refine A_5 ?_
 refine KC (fun h7 h7n => ?_) (fun h7 h7n => ?_)
 ·refine A_8 ?_
  have hy8 : y < 8 := by (try simp only [decide_eq_true_eq, decide_eq_false_iff_not, beq_iff_eq, beq_eq_false_iff_ne, bne_iff_ne, bne_eq_false_iff_eq, ne_eq] at *); omega
  have hP : (zL PQ y).length = 256 := by rw [aM9]; exact hQl
  have hB : tabB.length = 256 := by simp [tabB]
  refine A_3 ?_
  refine RW (v := (.int .i64 ((8 * y : Nat) : Int))) rfl rfl (cA_ _ y_cg) (RW (v := (.int .i64 ((199 + 8 * y : Nat) : Int))) rfl rfl (cA_ _ y_cg) (A_1 ?_))
  refine RW (v := (.int .i64 ((8 * y : Nat) : Int))) rfl rfl (cA_ _ y_cg) (RW (v := (.int .u16 ((8 * y : Nat) : Int))) rfl rfl (cA_ _ (eV o_m o_m)) (RS ?_))
  refine A_2 ?_
  refine RY (bT (s := 5) (199 + 8 * y) rfl rfl rfl rfl y_a) rfl (RZ (cQ (vs := cO ⟨28, 0, 0, 1, ((8 * y : Nat) : Int)⟩) 0 rfl rfl rfl rfl rfl rfl y_bI) rfl ?_)
  simp only [ap]
  rw [show 0 + 3 + (199 + 8 * y) * 5 = 3 + (199 + 8 * y) * 5 by omega, lX hP o_m, ← aDs]
  refine A_2 ?_
  refine RW (v := (.int .i64 ((y + 1 : Nat) : Int))) rfl rfl (cA_ _ (bB o_m)) (A_2 ?_)
  exact ⟨y + 1, y_dB, y_dB, .cons rfl .nil, a_g, fun _ h => h⟩
 refine A_1 ?_
 obtain rfl : 8 = y := by (try simp only [decide_eq_true_eq, decide_eq_false_iff_not, beq_iff_eq, beq_eq_false_iff_ne, bne_iff_ne, bne_eq_false_iff_eq, ne_eq] at *); omega
 rw [← hPQ, aRB]
 exact EN (.cons_cons _ (List.nil_sublist _)) ⟨rfl, rfl⟩
def disable (w : AI) : (callFunc 144 #[]).run prog w = .ok (.value (.tuple #[])) w := run_call_mark0 func144 y_i y_i y_i .disable y_i w
def enable (w : AI) : (callFunc 146 #[]).run prog w = .ok (.value (.tuple #[])) w := run_call_mark0 func146 y_i y_i y_i .enable y_i w
def acquire (a : Addr) (w : AI) : (callFunc 147 #[.pointer (some a)]).run prog w = .ok (.value (.tuple #[])) w := run_call_marked func147 y_i y_i y_i .acquire y_i a w
def releaseMerge (a : Addr) (w : AI) : (callFunc 149 #[.pointer (some a)]).run prog w = .ok (.value (.tuple #[])) w := run_call_marked func149 y_i y_i y_i .releaseMerge y_i a w
def aCI (a : Addr) (x : AH) (u : FrameMode) (w : AI) (hc : w.cell? a = some x) (hz : w.frozen? a = false) :
  CallsD prog 101 #[.pointer (some a), .bool true] u w fun e u' w' => u' = u ∧ (e = .returned (.tuple #[]) ∧ w' = w.drew.setCell a (.int .u32 1)) := by
 have hc' : w.drew.cell? a = some x := by go_simp
 have hz' : w.drew.frozen? a = false := by go_simp
 have hst := run_call_store (P := prog) func128 y_i y_i y_i y_i (k := .u32) (y := 1) hc' hz'
 go_enter_d func101, Tryz.ntmps101
 go_wp2
 go_region_calls
 all_goals (go_end0; exact ⟨rfl, rfl⟩)
def aBr (a : Addr) (u : FrameMode) (w : AI) (hc : w.cell? a = some (.int .i32 1)) (hz : w.frozen? a = false) :
  CallsD prog 100 #[.pointer (some a)] u w fun e u' w' => u' = u ∧ (e = .returned (.tuple #[]) ∧ w' = w.setCell a (.int .i32 0)) := by
 have hd := disable
 have he := enable
 have hr := releaseMerge
 have hadd := run_call_add (P := prog) func150 y_i y_i y_i .i32 y_i (y := -1) (s := 0) hc hz (by simp [go_sem]; rfl)
 have hcv := run_convert_to_unsafe (P := prog) (src := 291) (dst := 295) Tryz.underlying291 Tryz.underlying295 y_i hc
 go_enter_d func100, Tryz.ntmps100
 go_wp2
 go_end0
 go_wp2
 go_end0
 exact ⟨rfl, rfl⟩
def aKc (a : Addr) (w : AI) (hc : w.cell? a = some (.int .i32 0)) (hz : w.frozen? a = false) :
  Calls prog 99 #[.pointer (some a)] w fun e w' => e = .returned (.tuple #[]) ∧ w' = w.setCell a (.int .i32 1) := by
 have hd := disable
 have he := enable
 have ha := acquire
 have hcas := run_call_cas_hit (P := prog) func145 y_i y_i y_i .i32 y_i (y := 1) hc hz
 have hc' : (w.setCell a (.int .i32 1)).cell? a = some (.int .i32 1) := World.cell?_setCell_same w a _ hc
 have hcv := run_convert_to_unsafe (P := prog) (src := 291) (dst := 295) Tryz.underlying291 Tryz.underlying295 y_i hc'
 go_enter func99, Tryz.ntmps99
 go_wp2
 first | go_end0 | (simp only [Exit.inBlock, Exit.then]; refine bodyPost_ret (results_none rfl _ _ _) rfl ?_) | refine bodyPost_ret (results_none rfl _ _ _) rfl ?_
 go_wp2
 go_end0
 exact ⟨rfl, rfl⟩
set_option maxHeartbeats 1600000 in
def aKt (b : Nat) (w : AI) (F : AI → Prop)
  (h0 : w.cell? ⟨b, 0, none⟩ = some (.int .u32 0)) (h1 : w.cell? ⟨b, 0 + 1, none⟩ = some (.int .i32 0)) (f1 : w.frozen? ⟨b, 0 + 1, none⟩ = false)
  (hf : Calls prog 33 #[P_ b] (w.setCell ⟨b, 0 + 1, none⟩ (.int .i32 1)) fun e w' => e = .returned (.tuple #[]) ∧ F w')
  (hF : ∀ w', F w' → w'.cell? ⟨b, 0, none⟩ = some (.int .u32 0) ∧ w'.cell? ⟨b, 0 + 1, none⟩ = some (.int .i32 1) ∧ w'.frozen? ⟨b, 0, none⟩ = false ∧ w'.frozen? ⟨b, 0 + 1, none⟩ = false) :
  Calls prog 61 #[P_ b, .func (.func 33) #[P_ b] #[]] w fun e w' => e = .returned (.tuple #[]) ∧
   ∃ w2, F w2 ∧ w' = (w2.drew.setCell ⟨b, 0, none⟩ (.int .u32 1)).setCell ⟨b, 0 + 1, none⟩ (.int .i32 0) := by
 have hl := run_call_load (P := prog) func98 y_i y_i y_i .u32 y_i (w := w.setCell ⟨b, 0 + 1, none⟩ (.int .i32 1)) (a := ⟨b, 0, none⟩) (x := 0) ((World.cell?_setCell_other _ ⟨b, 0 + 1, none⟩ ⟨b, 0, none⟩ _ y_v).trans h0)
 have hnot : ∀ (x : Bool) (w : AI), (Op.unary .not (.bool x)).run prog w = .ok (.bool (!x)) w := fun _ _ => rfl
 go_enter_defers func61, Tryz.ntmps61
 go_wp2_with (go_at_call 99; refine (aKc ⟨b, 0 + 1, none⟩ _ (by go_simp) (by go_simp)).mono ?_; rintro e w' ⟨rfl, rfl⟩)
 go_wp2_with (first | (go_at_call 33; refine hf.mono ?_; rintro e w' ⟨rfl, hw2⟩) | (go_at_call 60; go_in))
 obtain ⟨c0, c1, z0, z1⟩ := hF _ hw2
 refine leaves_cons (f := 101) (args := #[P_ b, .bool true]) y_v (by simp [go_sem]) ?_
 refine (aCI ⟨b, 0, none⟩ (.int .u32 0) .returning _ c0 z0).mono ?_
 rintro e u' w'' ⟨rfl, rfl, rfl⟩
 refine leaves_cons (f := 100) (args := #[.pointer (some ⟨b, 0 + 1, none⟩)]) (by simp [settle]) (by simp [go_sem]) ?_
 refine (aBr ⟨b, 0 + 1, none⟩ _ _ ?_ ?_).mono ?_
 ·refine (World.cell?_setCell_other _ ⟨b, 0, none⟩ ⟨b, 0 + 1, none⟩ _ y_v).trans ?_
  rw [World.cell?_drew]
  exact c1
 ·simpa using z1
 rintro e u' w'' ⟨rfl, rfl, rfl⟩
 simp [Leaves, settle, results, Tryz.results61]
 exact ⟨_, hw2, rfl⟩
def pR (b : Nat) (u3 : AH) : aB := [(b, blk (gU (.int .u32 1) (.int .i32 0) u3 kW tabB) 97)]
def gN (b : Nat) (u3 : AH) (H : aB) : Prop :=
 (∃ P B, P.length = 256 ∧ B.length = 256 ∧ H = [(b, blk (gU (.int .u32 0) (.int .i32 0) u3 P B) 97)]) ∨ H = pR b u3
def aKz (b : Nat) (d : Int) (w : AI) (h0 : w.cell? ⟨b, 0, none⟩ = some (.int .u32 d)) :
  Calls prog 60 #[P_ b] w fun e w' => e = .returned (.bool (d != 0)) ∧ w' = w := by
 have hl := run_call_load (P := prog) func98 y_i y_i y_i .u32 y_i h0
 go_enter func60, Tryz.ntmps60
 go_wp2
 go_ret
 exact ⟨rfl, rfl⟩
def aGO (b : Nat) (d : Int) (w : AI) (h0 : w.cell? ⟨b, 0, none⟩ = some (.int .u32 d)) :
  aC prog 60 [P_ b] w [] (V_ (.bool (d != 0))) := by
 refine Calls.mono (aKz b d w h0) ?_
 rintro e w' ⟨rfl, rfl⟩
 exact ⟨_, [], rfl, St.refl _, rfl, rfl⟩
def aN6 (b : Nat) (u3 : AH) (P B : List Opr) (hP : P.length = 256) (hB : B.length = 256) (w : AI) (hb : w.heap[b]? = some (blk (gU (.int .u32 0) (.int .i32 0) u3 P B) 97)) :
  aC prog 61 [P_ b, .func (.func 33) #[P_ b] #[]] w [b] (fun v H => v = .tuple #[] ∧ H = pR b u3) := by
 have hst := St.lent1 hb
 have h1 : St w [b] [(b, blk (gU (.int .u32 0) (.int .i32 1) u3 P B) 97)] (w.setCell ⟨b, 0 + 1, none⟩ (.int .i32 1)) := hst.setCell (off := 0 + 1) (.int .i32 1)
 have hb1 := h1.holds _ (.head _)
 refine Calls.mono (aKt b w (fun w2 => St (w.setCell ⟨b, 0 + 1, none⟩ (.int .i32 1)) [b] [(b, blk (gU (.int .u32 0) (.int .i32 1) u3 kW tabB) 97)] w2)
  (by rw [iH hb]; rfl) (by rw [iH hb]; rfl) (rQ hb) (Calls.mono (aN7 b _ _ _ P B hP hB _ hb1) ?_) ?_) ?_
 ·rintro e w' ⟨v, H, rfl, h2, rfl, rfl⟩
  exact ⟨rfl, h2⟩
 ·intro w2 h2
  have hb2 := h2.holds _ (.head _)
  exact ⟨by rw [iH hb2]; rfl, by rw [iH hb2]; rfl, rQ hb2, rQ hb2⟩
 ·rintro e w' ⟨rfl, w2, h2, rfl⟩
  have hA := h1.after h2
  have hC := (hA.drew.setCell (off := 0) (.int .u32 1)).setCell (off := 0 + 1) (.int .i32 0)
  exact ⟨_, _, rfl, hC, rfl, rfl⟩
def mM (mb ub rb tb ob oc : Nat) (sp : AA) (plan : AH) (n : Nat) : Ad := { mb := mb, ub := ub, rb := rb, ob := ob, oc := oc, sp := sp, rc := n, rs := [], plan := plan, tab := P_ tb }
def aQ8 : CR := ⟨1, 176, 0, 19, 0, 216, 1, 77, 65534, 256⟩
def newM0 (rom : AB) : Mm := { cpu := ⟨r0, false, false, false, false⟩, bk := ⟨0, 0, 0, false, false, 0, 0, 0⟩, ck := ⟨0, 0, 0, 0, 0, false, false, 0, 0, 0, 0, 0⟩, tm := ⟨0, 0, 0, 0, false⟩, pd := ⟨0, 0⟩, pt := ⟨0, 0, 0, 0, 0, 0⟩, cp := ⟨0, 0⟩, bd := bdZ, flags := 0, lets := 0, steps := 0, cycles := 0, hd := hdH rom, u := oK, rom := rom, ram := List.replicate (hdH rom).ram.toNat 0, work := List.replicate 8192 0, high := List.replicate 127 0, acc := [] }
def aHk (rom : AB) : Mm := { newM0 rom with bk := ⟨(hdH rom).kind, (hdH rom).banks, (hdH rom).ram, decide ((hdH rom).kind = 0), false, 1, 0, 255⟩ }
def dX (rom : AB) : Mm := { aHk rom with cpu := ⟨aQ8, false, false, false, false⟩ }
def aHD (A : Ad) (acc : AH) (m : Mm) (n : Nat) : AA := kA m ++ (cBd m.bd ++ (([.int .u8 m.flags, .int .u8 m.lets, .int .u64 m.steps, .int .u64 m.cycles, .slice (Q_ A.ob) m.rom.length A.oc, A.plan] ++ (cHd m.hd ++ [A.tab, P_ A.ub, .slice (Q_ A.rb) n A.rc])) ++ (m.work.map (.int .u8) ++ (m.high.map (.int .u8) ++ [acc]))))
def cMmR_eq {A : Ad} {acc : AH} {m : Mm} {n : Nat} (h : m.ram.length = n) : aHD A acc m n = cMm A acc m := by subst h; rfl
def xU (rom : AB) : MLn (newM0 rom) := ⟨bdZ_wf.ln, ca, ca⟩
def aCc (rom : AB) : (hdH rom).ram = ((hdH rom).ram.toNat : Int) ∧ (hdH rom).ram.toNat ≤ 131072 := by
 have h : 0 ≤ (hdH rom).ram ∧ (hdH rom).ram ≤ 131072 := aNY _ _
 omega
def gN.one {b : Nat} {u3 : AH} {H : aB} (h : gN b u3 H) : ∃ o, H = [(b, o)] := by
 rcases h with ⟨P, B, _, _, rfl⟩ | rfl
 ·exact ⟨_, rfl⟩
 ·exact ⟨_, rfl⟩
def vnf_int {k : AM} {x y : Int} (h : x = y) : vnf (.int k x) = some (.int k y) := by rw [h]; rfl
structure Mm.Fr (R m : Mm) : Prop where
 rom : m.rom = R.rom
 hd : m.hd = R.hd
 ram : m.ram.length = R.ram.length
 kind : m.bk.kind = R.bk.kind
 banks : m.bk.banks = R.bk.banks
 size : m.bk.ram = R.bk.ram
section
variable {R m : Mm}
def Mm.Fr.refl (m : Mm) : Mm.Fr m m := ⟨rfl, rfl, rfl, rfl, rfl, rfl⟩
def Mm.Fr.ask (h : Mm.Fr R m) (k : Int) (is : Bool) : Mm.Fr R (askM k is m) := by unfold askM; split; exact ⟨h.rom, h.hd, h.ram, h.kind, h.banks, h.size⟩; exact h
def Mm.Fr.save (h : Mm.Fr R m) (a x : Int) : Mm.Fr R (iM a x m) := by
 unfold iM
 split
 ·exact ⟨h.rom, h.hd, h.ram, h.kind, h.banks, h.size⟩
 split
 ·exact h
 ·exact ⟨h.rom, h.hd, by show (m.ram.set _ _).length = _; rw [List.length_set]; exact h.ram, h.kind, h.banks, h.size⟩
def Mm.Fr.setDevice (h : Mm.Fr R m) (a x : Int) : Mm.Fr R (setDeviceM a x m) := by
 unfold setDeviceM
 split
 ·exact Mm.Fr.ask (m := { m with pd := kT x m.pd }) ⟨h.rom, h.hd, h.ram, h.kind, h.banks, h.size⟩ _ _
 repeat' split
 all_goals first | exact h | exact ⟨h.rom, h.hd, h.ram, h.kind, h.banks, h.size⟩
def Mm.Fr.poke (h : Mm.Fr R m) (a x : Int) : Mm.Fr R (pokeM a x m) := by
 unfold pokeM
 split
 ·obtain ⟨h1, h2, h3⟩ := aAy a x m.bk
  unfold mQ
  split <;> exact ⟨h.rom, h.hd, h.ram, by first | exact h1.trans h.kind, by first | exact h2.trans h.banks, by first | exact h3.trans h.size⟩
 split
 ·exact Mm.Fr.ask (m := { m with u := eS m.u a x }) ⟨h.rom, h.hd, h.ram, h.kind, h.banks, h.size⟩ _ _
 split
 ·exact h.save a x
 split
 ·exact ⟨h.rom, h.hd, h.ram, h.kind, h.banks, h.size⟩
 split
 ·exact h
 ·exact h.setDevice a x
def Mm.Fr.cycle (h : Mm.Fr R m) : Mm.Fr R (cycleM m) := by
 have h1 : Mm.Fr R (cyc1 m) := Mm.Fr.ask (m := { m with cycles := (m.cycles + 1) % 18446744073709551616, tm := lU m.tm }) ⟨h.rom, h.hd, h.ram, h.kind, h.banks, h.size⟩ _ _
 have h2 : Mm.Fr R (cyc2 (cyc1 m)) := Mm.Fr.ask (m := { cyc1 m with pt := tickPt (cyc1 m).pt }) ⟨h1.rom, h1.hd, h1.ram, h1.kind, h1.banks, h1.size⟩ _ _
 have h3 : Mm.Fr R (cyc3 (cyc2 (cyc1 m))) := by unfold cyc3; split; exact ⟨h2.rom, h2.hd, h2.ram, h2.kind, h2.banks, h2.size⟩; exact h2
 have h4 : Mm.Fr R (cyc4 (cyc3 (cyc2 (cyc1 m)))) := ⟨h3.rom, h3.hd, h3.ram, h3.kind, h3.banks, h3.size⟩
 have h5 : Mm.Fr R (cyc5 (cyc4 (cyc3 (cyc2 (cyc1 m))))) := Mm.Fr.ask (Mm.Fr.ask (m := { cyc4 (cyc3 (cyc2 (cyc1 m))) with u := tickU (cyc4 (cyc3 (cyc2 (cyc1 m)))).u }) ⟨h4.rom, h4.hd, h4.ram, h4.kind, h4.banks, h4.size⟩ _ _) _ _
 show Mm.Fr R (nN _)
 unfold nN; split; exact ⟨h5.rom, h5.hd, h5.ram, h5.kind, h5.banks, h5.size⟩; exact h5
def Mm.Fr.note (h : Mm.Fr R m) (k a x : Int) : Mm.Fr R (qN k a x m) := ⟨h.rom, h.hd, h.ram, h.kind, h.banks, h.size⟩
end
structure Mm.Dec (m : Mm) : Prop where
 good : m.u.Good
 dy : m.ck.Dy
section
variable {m : Mm}
def Mm.Dec.ask (h : m.Dec) (k : Int) (is : Bool) : (askM k is m).Dec := by unfold askM; split; exact ⟨h.good, h.dy⟩; exact h
def Ck.Dy.hold {c : Ck} (h : c.Dy) : (sR c).Dy := h
def Mm.Dec.poke (h : m.Dec) (a : Int) {x : Int} (hx : 0 ≤ x ∧ x < 256) : (pokeM a x m).Dec := by
 unfold pokeM
 split
 ·unfold mQ; split
  ·exact ⟨h.good, h.dy.hold⟩
  ·exact ⟨h.good, h.dy⟩
 split
 ·exact Mm.Dec.ask (m := { m with u := eS m.u a x }) ⟨h.good.write hx, h.dy⟩ _ _
 split
 ·unfold iM
  split
  ·exact ⟨h.good, h.dy.write _ hx⟩
  split
  ·exact h
  ·exact ⟨h.good, h.dy⟩
 split
 ·exact ⟨h.good, h.dy⟩
 split
 ·exact h
 unfold setDeviceM
 split
 ·exact Mm.Dec.ask (m := { m with pd := kT x m.pd }) ⟨h.good, h.dy⟩ _ _
 repeat' split
 all_goals first | exact h | exact ⟨h.good, h.dy⟩
def Mm.Dec.cycle (h : m.Dec) (hw : m.Wf) : (cycleM m).Dec := by
 have w1 := hw.cyc1W
 have w2 := w1.cyc2W
 have h1 : (cyc1 m).Dec := Mm.Dec.ask (m := { m with cycles := (m.cycles + 1) % 18446744073709551616, tm := lU m.tm }) ⟨h.good, h.dy⟩ _ _
 have h2 : (cyc2 (cyc1 m)).Dec := Mm.Dec.ask (m := { cyc1 m with pt := tickPt (cyc1 m).pt }) ⟨h1.good, h1.dy⟩ _ _
 have h3 : (cyc3 (cyc2 (cyc1 m))).Dec := by
  unfold cyc3; split
  ·exact ⟨h2.good.sprite _ (wF (m := { cyc2 (cyc1 m) with cp := tickCp (cyc2 (cyc1 m)).cp }) (w2.cp_ w2.cp.tick) _), h2.dy⟩
  ·exact h2
 have h4 : (cyc4 (cyc3 (cyc2 (cyc1 m)))).Dec := ⟨h3.good, h3.dy⟩
 have h5 : (cyc5 (cyc4 (cyc3 (cyc2 (cyc1 m))))).Dec := Mm.Dec.ask (Mm.Dec.ask (m := { cyc4 (cyc3 (cyc2 (cyc1 m))) with u := tickU (cyc4 (cyc3 (cyc2 (cyc1 m)))).u }) ⟨h4.good.tick, h4.dy⟩ _ _) _ _
 show (nN _).Dec
 unfold nN; split; exact ⟨h5.good, h5.dy.tick⟩; exact h5
end
structure MmG (R : Mm) (D : Prop) (n : Nat) (m : Mm) : Prop where
 ok : fQ n m
 fr : Mm.Fr R m
 dec : D → m.Dec
def aHR (R : Mm) (D : Prop) : aSY Mm where
 toaSX := dN
 ok := MmG R D
 oF := fun {n m a} h ha => ⟨⟨h.ok.get 3 ha, h.fr.cycle.note _ _ _, fun hd => (fun k : (cycleM m).Dec => ⟨k.good, k.dy⟩) ((h.dec hd).cycle h.ok.wf)⟩, sP h.ok.wf.cycle _⟩
 oR := fun {n m a} h ha => ⟨⟨h.ok.get 1 ha, h.fr.cycle.note _ _ _, fun hd => (fun k : (cycleM m).Dec => ⟨k.good, k.dy⟩) ((h.dec hd).cycle h.ok.wf)⟩, sP h.ok.wf.cycle _⟩
 oW := fun {n m a x} h ha hx => ⟨h.ok.write ha hx, by
  show Mm.Fr R (qN 2 a x _)
  refine Mm.Fr.note ?_ _ _ _
  split
  ·exact h.fr.cycle.poke _ _
  ·exact h.fr.cycle, fun hd => by
  have k := (h.dec hd).cycle h.ok.wf
  have g : (if letsCp (cycleM m).cp a = true then pokeM a x (cycleM m) else cycleM m).Dec := by
   split
   ·exact k.poke a hx
   ·exact k
  exact ⟨g.good, g.dy⟩⟩
 oI := fun {n m} h => ⟨h.ok.cycle.note 0 y_b y_b, h.fr.cycle.note _ _ _, fun hd => (fun k : (cycleM m).Dec => ⟨k.good, k.dy⟩) ((h.dec hd).cycle h.ok.wf)⟩
 oP := fun _ => aFo _
 oA := fun h hk => ⟨h.ok.ack hk, ⟨h.fr.rom, h.fr.hd, h.fr.ram, h.fr.kind, h.fr.banks, h.fr.size⟩, fun hd => ⟨(h.dec hd).good, (h.dec hd).dy⟩⟩
 oL := fun h hk => ⟨h.ok.le hk, h.fr, h.dec⟩
structure jK (R : Mm) (D : Prop) (m : Mm) : Prop where
 wf : m.Wf
 rg : m.cpu.r.Ok
 fr : Mm.Fr R m
 dec : D → m.Dec
section
variable {R m : Mm} {D : Prop} {plan : List Chg} (hp : ∀ c ∈ plan, mX c)
include hp
def aEu (h : jK R D m) : MmG R D 7 (bS plan m) := by
 have h1 : Mm.Fr R (jN (eC plan m.steps) m) := Mm.Fr.ask (m := { m with pd := gQ (eC plan m.steps) m.pd }) ⟨h.fr.rom, h.fr.hd, h.fr.ram, h.fr.kind, h.fr.banks, h.fr.size⟩ _ _
 refine ⟨⟨h.wf.start hp, by show (0 : Nat) + 7 ≤ 1000000; decide, fun e he => by cases he⟩, ⟨h1.rom, h1.hd, h1.ram, h1.kind, h1.banks, h1.size⟩, fun hd => ?_⟩
 have h2 : (jN (eC plan m.steps) m).Dec := Mm.Dec.ask (m := { m with pd := gQ (eC plan m.steps) m.pd }) ⟨(h.dec hd).good, (h.dec hd).dy⟩ _ _
 exact ⟨h2.good, h2.dy⟩
def jK.step (h : jK R D m) : jK R D (stepM plan m).2 := by
 have hq := aGo (K := aHR R D) (n := 0) (x := (⟨m.cpu, bS plan m⟩ : Rn Mm)) ⟨h.rg, aEu hp h⟩
 have hw : (bW dN (⟨m.cpu, bS plan m⟩ : Rn Mm)).2.m.Wf := hq.m.ok.wf
 exact ⟨hw.steps_ o_m _, hq.r, ⟨hq.m.fr.rom, hq.m.fr.hd, hq.m.fr.ram, hq.m.fr.kind, hq.m.fr.banks, hq.m.fr.size⟩, fun hd => ⟨(hq.m.dec hd).good, (hq.m.dec hd).dy⟩⟩
end
def uR (plan : List Chg) (m : Mm) : Nat → Mm
 | 0 => m
 | i + 1 => (stepM plan (uR plan m i)).2
def jK.run {R m : Mm} {D : Prop} {plan : List Chg} (hp : ∀ c ∈ plan, mX c) (h : jK R D m) : ∀ i, jK R D (uR plan m i)
 | 0 => h
 | i + 1 => (h.run hp i).step hp
def aNk : aQ8.Ok := by constructor <;> decide
def aKq {rom : AB} (h : errH rom = 0) : 336 ≤ rom.length ∧ rom.getD 333 0 = chkH rom 25 ∧ (∃ s, sortH (rom.getD 327 0) = some s) ∧ rom.getD 328 0 ≤ 8 ∧ rom.getD 329 0 < 6 ∧ (rom.length : Int) = 32768 * 2 ^ (rom.getD 328 0).toNat := by
 unfold errH at h
 split at h
 ·cases h
 split at h
 ·cases h
 rename_i h1 h2
 split at h
 ·cases h
 rename_i s hs
 split at h
 ·cases h
 rename_i h3
 split at h
 ·cases h
 rename_i h4
 exact ⟨y_B, Decidable.byContradiction h2, ⟨s, hs⟩, y_B, y_B, Decidable.byContradiction h4⟩
def aPt {rom : AB} (h : errH rom = 0) (hb : aY rom) : (dX rom).Wf := by
 obtain ⟨_, _, ⟨s, hs⟩, h3, _, h5⟩ := aKq h
 have hk := aHC hs
 have h8 := hb.get 328
 have hram := aCc rom
 have ek : (hdH rom).kind = s.1 := by unfold hdH; rw [hs]; rfl
 have eb : (hdH rom).banks = 2 * 2 ^ (rom.getD 328 0).toNat := rfl
 have hpow : (1 : Int) ≤ 2 ^ (rom.getD 328 0).toNat ∧ (2 : Int) ^ (rom.getD 328 0).toNat ≤ 256 := by
  rcases (show rom.getD 328 0 = 0 ∨ rom.getD 328 0 = 1 ∨ rom.getD 328 0 = 2 ∨ rom.getD 328 0 = 3 ∨ rom.getD 328 0 = 4 ∨ rom.getD 328 0 = 5 ∨ rom.getD 328 0 = 6 ∨ rom.getD 328 0 = 7 ∨ rom.getD 328 0 = 8 by omega) with e | e | e | e | e | e | e | e | e <;> rw [e] <;> decide
 have hz : ∀ n : Nat, aY (List.replicate n 0) := fun n x hx => by rw [(List.mem_replicate.1 hx).2]; decide
 have a0 : (0 : Int) ≤ 0 ∧ (0 : Int) < 256 := by decide
 have b0 : (0 : Int) ≤ 0 ∧ (0 : Int) < 65536 := by decide
 have c0 : (0 : Int) ≤ 0 ∧ (0 : Int) < 18446744073709551616 := by decide
 have d0 : (0 : Int) ≤ 0 ∧ (0 : Int) < 4294967296 := by decide
 have hh : aY ([0, 0, 0, 0, 0] : AB) := by unfold aY; decide
 have ek2 : 0 ≤ (hdH rom).kind ∧ (hdH rom).kind < 256 := by rw [ek]; exact hk
 have eb2 : 0 ≤ (hdH rom).banks ∧ (hdH rom).banks < 65536 := by rw [eb]; omega
 have er2 : 0 ≤ (hdH rom).ram ∧ (hdH rom).ram < 1048576 := by omega
 have eb3 : 0 < (hdH rom).banks := by rw [eb]; omega
 have el2 : (rom.length : Int) = 16384 * (hdH rom).banks := by rw [eb, h5]; omega
 refine ⟨⟨ek2, eb2, er2, show (0 : Int) ≤ 1 ∧ (1 : Int) < 65536 by decide, b0, show (0 : Int) ≤ 255 ∧ (255 : Int) < 256 by decide⟩, ⟨⟨a0, a0, a0, show -9223372036854775808 ≤ (0 : Int) ∧ (0 : Int) ≤ 9223372036854775807 by decide, hh⟩, d0⟩, ⟨b0, a0, a0, a0⟩, ⟨a0, a0⟩, ⟨a0, a0, a0, b0, b0, b0⟩, ⟨a0, b0⟩, bdZ_wf, a0, a0, c0, c0, aFx, eb3, el2, hb, ?_, hz _, ca, hz _, ca, hz _⟩
 show ((List.replicate (hdH rom).ram.toNat (0 : Int)).length : Int) = (hdH rom).ram
 rw [ca]; omega
def aET {rom : AB} (h : errH rom = 0) (hb : aY rom) : jK (dX rom) True (dX rom) := ⟨aPt h hb, aNk, .refl _, fun _ => ⟨aIh, show (0 : Int) ≤ 0 ∧ (0 : Int) < 512 by decide⟩⟩
def aAU (rom : AB) : (dX rom).ram.length ≤ 131072 := by show (List.replicate _ (0 : Int)).length ≤ _; rw [ca]; exact (aCc rom).2
def madeAt (i : Nat) : Nat := if 4 ≤ i then 332 + i else 256 + i
def madeP (l prog : AB) : Nat → AB
 | 0 => l
 | i + 1 => (madeP l prog i).set (madeAt i) (prog.getD i 0)
def romS (b : Int) : Nat := 32768 * 2 ^ (b % 9).toNat
def madeZ (kind b ram : Int) (prog : AB) : AB := (((madeP (List.replicate (romS b) 0) prog (min prog.length 15000)).set 327 kind).set 328 (b % 9)).set 329 ram
def madeI (kind b ram : Int) (prog : AB) : AB := (madeZ kind b ram prog).set 333 (chkH (madeZ kind b ram prog) 25)
def tN (l prog : AB) : ∀ i, (madeP l prog i).length = l.length
 | 0 => rfl
 | i + 1 => by unfold madeP; rw [List.length_set]; exact tN l prog i
def rD {l : AB} (h : aY l) {x : Int} (hx : 0 ≤ x ∧ x < 256) (i : Nat) : aY (l.set i x) := fun y hy => by
 rcases ey hy with h1 | rfl
 ·exact h y h1
 ·exact hx
def aBA {l prog : AB} (h : aY l) (hp : aY prog) : ∀ i, aY (madeP l prog i)
 | 0 => h
 | i + 1 => rD (aBA h hp i) (hp.get i) _
def aPV (b : Int) : 32768 ≤ romS b ∧ romS b ≤ 8388608 := by
 have hb : b % 9 = 0 ∨ b % 9 = 1 ∨ b % 9 = 2 ∨ b % 9 = 3 ∨ b % 9 = 4 ∨ b % 9 = 5 ∨ b % 9 = 6 ∨ b % 9 = 7 ∨ b % 9 = 8 := by omega
 unfold romS
 rcases hb with e | e | e | e | e | e | e | e | e <;> rw [e] <;> decide
def yN (kind b ram : Int) (prog : AB) : (madeZ kind b ram prog).length = romS b := by unfold madeZ; rw [List.length_set, List.length_set, List.length_set, tN, ca]
def tY (kind b ram : Int) (prog : AB) : (madeI kind b ram prog).length = romS b := by unfold madeI; rw [List.length_set, yN]
def aIy (n : Nat) : aY (List.replicate n (0 : Int)) := fun x hx => by rw [(List.mem_replicate.1 hx).2]; decide
def aBk {kind b ram : Int} {prog : AB} (hk : 0 ≤ kind ∧ kind < 256) (hr : 0 ≤ ram ∧ ram < 256) (hp : aY prog) : aY (madeZ kind b ram prog) :=
 rD (rD (rD (aBA (aIy _) hp _) hk _) o_m _) hr _
def aBH {kind b ram : Int} {prog : AB} (hk : 0 ≤ kind ∧ kind < 256) (hr : 0 ≤ ram ∧ ram < 256) (hp : aY prog) : aY (madeI kind b ram prog) :=
 rD (aBk hk hr hp) (zW _ _) _
def put_byte {l : AB} {n o o' : Nat} (x : Int) (hn : l.length = n) (h : o' < n) (ho : o = o') : aP (l.map (.int .u8)) o [.int .u8 x] = (l.set o' x).map (.int .u8) := by
 subst ho hn
 exact jE .u8 h x
def len_byte {l : AB} {n o : Nat} {v : AH} (hn : l.length = n) (h : o < n) : o + [v].length ≤ (l.map U_).length := by
 subst hn
 rw [Lm_]
 exact h
def madeP_n (b : Int) (prog : AB) (i : Nat) : (madeP (List.replicate (romS b) 0) prog i).length = romS b := by rw [tN, ca]
structure Gm where
 kind : Int
 ram : Int
 pa : AC
 pc : Nat
 prog : AB
 qa : AC
 qc : Nat
 plan : List Chg
structure Gm.Ok (w : AI) (g : Gm) : Prop where
 kind : 0 ≤ g.kind ∧ g.kind < 256
 ram : 0 ≤ g.ram ∧ g.ram < 256
 prog : aY g.prog
 lp : g.prog.length ≤ g.pc ∧ g.prog.length ≤ maxLen
 np : Ns w .u8 g.pa g.prog
 plan : ∀ c ∈ g.plan, mX c
 lq : g.plan.length ≤ g.qc ∧ g.plan.length ≤ maxLen
 nq : Els w aA8 g.qa g.plan
def Gm.Ok.later {g : Gm} {w0 w : AI} {H : aB} (h : g.Ok w0) (hw : St w0 [] H w) : g.Ok w := ⟨h.kind, h.ram, h.prog, h.lp, h.np.later0 hw, h.plan, h.lq, h.nq.later0 hw⟩
def mJ : AB := madeI 0 0 0 [62, 18]
def aEK : errH mJ = 0 := by kernel_rfl
def m1 : Mm := (stepM [] (dX mJ)).2
def aRL : m1.acc.length = 2 := by kernel_rfl
def aSP : m1.cpu.r.a = 18 := by kernel_rfl
section
variable {plan : List Chg} {R m n : Mm}
def aHn (x : List Ac) : bS plan { m with acc := x } = bS plan m := by unfold bS jN askM; dsimp only; split <;> rfl
def aJg (x : List Ac) : stepM plan { m with acc := x } = stepM plan m := by unfold stepM; rw [aHn]
def EqA (m n : Mm) : Prop := n = { m with acc := n.acc }
def EqA.step (h : EqA m n) : stepM plan n = stepM plan m := by rw [h]; exact aJg _
def EqA.enc (h : EqA m n) : fY n = fY m := by rw [h]; rfl
def EqA.run (h : EqA m n) : ∀ i, EqA (uR plan m i) (uR plan n i)
 | 0 => h
 | i + 1 => by
  have e : (stepM plan (uR plan n i)).2 = (stepM plan (uR plan m i)).2 := by rw [(h.run i).step]
  show (stepM plan (uR plan n i)).2 = { (stepM plan (uR plan m i)).2 with acc := (stepM plan (uR plan n i)).2.acc }
  rw [e]
def aE2 (hm : jK R True m) (hn : jK R True n) : 0 = aAu n (fY m) ∧ aIm n (fY m) = { m with acc := [] } := by
 have hl : n.ram.length = m.ram.length := hn.fr.ram.trans hm.fr.ram.symm
 have hd := (hm.dec trivial)
 have hday : 0 ≤ m.ck.day ∧ m.ck.day < 65536 := by have := hd.dy; unfold Ck.Dy at this; omega
 have e8 : (lY m).length = 8482 := aAF hm.wf
 have e1 : (fY m).drop 8482 = m.ram ++ fU m.u := by unfold fY; rw [← e8, fu]
 have e2 : (fY m).drop (8482 + n.ram.length) = fU m.u := by rw [← bf, e1, hl, fu]
 have e3 : ((fY m).drop 8482).take n.ram.length = m.ram := by rw [e1, hl, ib]
 have e4 : aD0 n (fY m) = { m with acc := n.acc } := by
  unfold aD0 aHX
  rw [e2, e3, aOS hd.good, show aHw n (fY m) = _ from aMa hm.wf hm.rg hday n _]
  have h1 : n.rom = m.rom := hn.fr.rom.trans hm.fr.rom.symm
  have h2 : n.hd = m.hd := hn.fr.hd.trans hm.fr.hd.symm
  have h3 : n.bk.kind = m.bk.kind := hn.fr.kind.trans hm.fr.kind.symm
  have h4 : n.bk.banks = m.bk.banks := hn.fr.banks.trans hm.fr.banks.symm
  have h5 : n.bk.ram = m.bk.ram := hn.fr.size.trans hm.fr.size.symm
  simp only [h1, h2, h3, h4, h5]
 have e5 : 0 = aAu n (fY m) := aH6 (m := n) (l := fY m) (by rw [sU hm.wf, sU hn.wf, hl]) (by rw [e2]; exact aNj hd.good) (by rw [e4]; rfl)
 exact ⟨e5, by rw [aJv e5, e4]⟩
def jK.acc_ (h : jK R True m) (x : List Ac) : jK R True { m with acc := x } := ⟨h.wf.acc_ x, h.rg, ⟨h.fr.rom, h.fr.hd, h.fr.ram, h.fr.kind, h.fr.banks, h.fr.size⟩, fun _ => ⟨(h.dec trivial).good, (h.dec trivial).dy⟩⟩
end
def aJu (b : Nat) (ad va : AH) (hA : ad = .pointer none ∨ ad = P_ b) (w : AI) (hst : St w [b] [(b, blk [ad, va] 243)] w) : aC prog 130 [P_ b] w [b] (fun v H => v = .tuple #[] ∧ H = [(b, blk [P_ b, va] 243)]) := by
 refine dO_ func130 hst ?_
 refine ZBR ?_
 rcases hA with rfl | rfl
 ·refine ZB6 ?_
  refine RZ (aH rfl rfl (aT (v := .pointer none) m_m rfl)) rfl (ZA1 ?_)
  refine ZBx ?_
  refine RZ (aR9 rfl rfl rfl rfl rfl m_m (ag rfl)) rfl (RZ (aRU (fn := Tryz.f152) (E := Extern.AbiNoEscape.same) func152 rfl rfl rfl rfl rfl (fun w => rfl)) rfl (RZ (aPs (n := 2) rfl rfl rfl rfl m_m rfl y_i) rfl (ZAn ?_)))
  refine RZ (xS_ (l' := [P_ b, va]) 0) rfl (ZAB ?_)
  exact ZDp
 refine ZB6 ?_
 refine RZ (aH rfl rfl (aT (v := P_ b) m_m rfl)) rfl (ZAY ?_)
 refine ZDR ?_
 refine RZ (aH rfl rfl (aT (v := P_ b) m_m rfl)) rfl (ZBR ?_)
 refine RZ (aPJ rfl rfl rfl rfl) rfl (ZBR ?_)
 refine fK false rfl rfl ?_
 exact ZDp
def bwrite_fn (b : Nat) (ad va : AH) (hA : ad = .pointer none ∨ ad = P_ b) (n : Nat) (hn : n ≤ 1000000) (xs : AA) (G : aB) (hV : Vec 5 1 va n xs G) (x : Int) (ms : AE) (w : AI) (hst : St w ms ((b, blk [ad, va] 243) :: G) w) : aC prog 102 [P_ b, .int .u8 x] w ms (fun v H => v = .nilIface ∧ ∃ va' G', Vec 5 1 va' (n + 1) (xs ++ [.int .u8 x]) G' ∧ H = (b, blk [P_ b, va'] 243) :: G') := by
 obtain ⟨a6, c0, rfl⟩ := hV.slice
 refine dO_ func102 hst ?_
 refine ZDR ?_
 refine RX (dY (A := [(b, blk [ad, (.slice a6 n c0)] 243)]) (G := G) (R := fun v H => v = .tuple #[] ∧ H = [(b, blk [P_ b, (.slice a6 n c0)] 243)]) [b] K_ rfl (by intro x hx; obtain rfl := List.mem_singleton.1 hx; exact ⟨_, .head _⟩) (wL_ (aJu b ad (.slice a6 n c0) hA))) rfl (ZAF ?_)
 refine ZAn ?_
 refine eP (L' := (b, blk [P_ b, (.slice a6 n c0)] 243) :: (G ++ [])) (fun _ h => by rw [bq]; exact h) ?_
 refine ZBx ?_
 refine RZ (aH rfl rfl (aT (v := (.slice a6 n c0)) m_m rfl)) rfl (ZBR ?_)
 refine RX (bX (z := [.int .u8 0]) (l := [.int .u8 x]) (ps := [(0, .int .u8 x)]) rfl rfl rfl rfl rfl rfl) rfl (ZBz fun b0 => ?_)
 refine RX (gD (A := [(b0, _), (b, _)]) (G := G) (R := []) (v := (.slice a6 n c0)) (n := n) (xs := xs) (m := 1) (T := 5) (s := 1) (by_ := 1) (ys := [.int .u8 x]) rfl rfl rfl rfl hV (fun w hw => .row _ _ _ _ _ rfl (aA (b := b0) (.head _) w hw)) rfl o_m o_m) rfl ?_
 rintro v0 _ ⟨G0, hV0, _, rfl⟩
 obtain ⟨b1, cp9, sp0, rfl, rfl, hc0, hle9, hm9⟩ := hV0.full o_m
 refine ZCR ?_
 refine RZ (xS_ (l' := [P_ b, .slice (Q_ b1) (n + 1) cp9]) 2) rfl (ZAB ?_)
 refine ZB2 ?_
 exact eQ (fun _ _ => sN rfl) (fun _ h => (h.sub (.cons_cons _ (.cons _ sR_))).perm (List.Perm.swap _ _ _)) ⟨rfl, _, _, hV0, rfl⟩
def bstring_fn (b : Nat) (ad va : AH) (T : List UInt8) (hT : T.length ≤ 1000000) (G : aB) (hV : Vec 5 1 va T.length (txV T) G) (h0 : T.length = 0 → va = .slice none 0 0 ∧ G = []) (ms : AE) (w : AI) (hst : St w ms ((b, blk [ad, va] 243) :: G) w) : aC prog 103 [P_ b] w ms (V_ (.string (bs T))) := by
 refine dO_ func103 hst ?_
 refine ZBx ?_
 rcases hV.parts h0 with ⟨hz, rfl, rfl⟩ | ⟨b9, k9, sp9, hne, rfl, rfl⟩
 ·refine DR [4, 5, 6, 7, 8, 9] (pln [0, 2, 4, 6, 10, 12, 14, 16, 18, 9, 21, 22]) ?_
  refine ZBB ?_
  refine DL rfl rfl rfl (cZ (v := .slice none 0 0) m_m rfl) rfl (ZBB ?_)
  refine DL rfl rfl rfl (cZ (v := .slice none 0 0) m_m rfl) rfl (DY rfl l_n rfl (DZ rfl (aRS rfl) rfl y_cX (DZ rfl (aPN rfl rfl rfl) rfl n_h ?_)))
  refine ZBB ?_
  obtain rfl := ci hz
  exact EV rfl (List.nil_sublist _) ⟨rfl, rfl⟩
 refine DR [4, 5, 6, 7, 8, 9] (pln [0, 2, 4, 6, 10, 12, 14, 16, 18, 9, 21, 22]) ?_
 refine ZBB ?_
 refine DL rfl rfl rfl (cZ (v := .slice (Q_ b9) T.length (k9 + 1)) m_m rfl) rfl (ZBB ?_)
 refine DL rfl rfl rfl (cZ (v := .slice (Q_ b9) T.length (k9 + 1)) m_m rfl) rfl (DY rfl l_n rfl (DZ rfl (aSk rfl) rfl y_cX (gL (fun w hw => hw.perm (List.Perm.swap _ _ _)) ?_)))
 refine DX rfl (aRj (a := T) (sp := sp9) rfl rfl rfl rfl rfl (fun h => hne (by rw [h]; rfl)) hT) rfl n_h ?_
 rintro _ _ ⟨rfl, o13, rfl⟩
 refine ZBB ?_
 exact EV rfl (List.nil_sublist _) ⟨rfl, rfl⟩
end Go.Proofs.YtdbgagkcgdlnnaaGreat
