/- Parts. -/
import Derived.Test.YtacejanlmhbddaaGreatProg
import Derived.Test.YtacejanlmhbddaaGreatQfC
import Derived.Test.YtacejanlmhbddaaGreatQfF
set_option maxRecDepth 100000
set_option maxHeartbeats 1000000
set_option linter.all false
namespace Go.Proofs.YtacejanlmhbddaaGreat
open Go Go.VV Go.Proofs Go.RowKit Go.Proofs.Tryz
def oO (b : Bd) : AA := [.bool b.on, .int .i64 b.div, .int .i64 b.step] ++ (aF cVc b.vs ++ [.int .i64 b.pitch, .int .i64 b.slide, .bool b.slides])
def aFu {b : Bd} (h : b.Ln) : (oO b).length = 22 := by
 unfold oO
 rw [La_, La_, flat4, h.lV]; rfl
section
variable {A : Ad} {acc : AH} {m : Mm} (h : MLn m) (bs : AB)
def uR : cMm A acc m = (iB m ++ m.bd.regs.map (.int .u8)) ++ (oO m.bd ++ fD A acc m) := by
 rw [mZ]
 show iB m ++ ((m.bd.regs.map (.int .u8) ++ oO m.bd) ++ fD A acc m) = _
 simp only [As_]
include h
def aUC {p : Nat} (hb : p + 48 ≤ bs.length) : dK .byte (bY 49 48) (cMm A acc m) bs p = cMm A acc { m with bd := { m.bd with regs := (bs.drop p).take 48 } } := by
 rw [uR, As_, vF fQ hb h.bd.lR, uR, As_]
 rfl
def aCR {k : FK} {os os' : AE} {b' : Bd} {p : Nat} (he : os = os'.map (97 + ·)) (ho : (os'.all fun o => Nat.blt o 22) = true) (h1 : dK k os' (oO m.bd) bs p = oO b') (hr : m.bd.regs = b'.regs) : dK k os (cMm A acc m) bs p = cMm A acc { m with bd := b' } := by
 have hlt : ∀ o ∈ os', o < 22 := fun o hx => ae (List.all_eq_true.1 ho o hx)
 rw [uR, he, aBu (X := iB m ++ m.bd.regs.map U_) (n := 97) (by rw [La_, fQ, Lm_, h.bd.lR]) (fun o hx => by rw [La_, aFu h.bd]; have := hlt o hx; omega),
  xS (fun o hx => by rw [aFu h.bd]; exact hlt o hx), h1, uR, hr]
 rfl
def tV : ∃ a b c d, m.bd.vs = [a, b, c, d] := by
 have h4 := h.bd.lV
 match e : m.bd.vs, h4 with
 | [a, b, c, d], _ => exact ⟨a, b, c, d, rfl⟩
def aS3 (p : Nat) : dK .bool [97, 118] (cMm A acc m) bs p = cMm A acc { m with bd := { m.bd with on := bo bs p, slides := bo bs (p + 1) } } := by
 obtain ⟨a, b, c, d, e⟩ := tV h
 refine aCR h bs (os' := [0, 21]) rfl rfl ?_ rfl
 unfold oO; rw [e]; kernel_rfl
def aTq (p : Nat) : dK (.int 2) [98, 99, 116, 117] (cMm A acc m) bs p = cMm A acc { m with bd := { m.bd with div := vt bs p 2, step := vt bs (p + 2) 2, pitch := vt bs (p + 4) 2, slide := vt bs (p + 6) 2 } } := by
 obtain ⟨a, b, c, d, e⟩ := tV h
 refine aCR h bs (os' := [1, 2, 19, 20]) rfl rfl ?_ rfl
 unfold oO; rw [e]; kernel_rfl
def aJL (v : Vc) (x : Bool) : Vc := { v with on := x }
def aTs (v : Vc) (x y z : Int) : Vc := { v with len := x, lev := y, wait := z }
def aTR {i : Nat} (hi : i < 4) (p : Nat) : dK .bool [100 + 4 * i] (cMm A acc m) bs p = cMm A acc { m with bd := m.bd.setV i (aJL (m.bd.v i) (bo bs p)) } := by
 obtain ⟨a, b, c, d, e⟩ := tV h
 refine aCR h bs (os' := [3 + 4 * i]) (by simp only [ce, cz]; congr 1; omega) y_ez ?_ rfl
 unfold oO Bd.setV Bd.v; rw [e]
 rcases (show i = 0 ∨ i = 1 ∨ i = 2 ∨ i = 3 by omega) with rfl | rfl | rfl | rfl <;> kernel_rfl
def aTC {i : Nat} (hi : i < 4) (p : Nat) : dK (.int 2) [101 + 4 * i, 102 + 4 * i, 103 + 4 * i] (cMm A acc m) bs p = cMm A acc { m with bd := m.bd.setV i (aTs (m.bd.v i) (vt bs p 2) (vt bs (p + 2) 2) (vt bs (p + 4) 2)) } := by
 obtain ⟨a, b, c, d, e⟩ := tV h
 refine aCR h bs (os' := [4 + 4 * i, 5 + 4 * i, 6 + 4 * i]) (by simp only [ce, cz]; congr 1; omega; congr 1; omega; congr 1; omega) y_ez ?_ rfl
 unfold oO Bd.setV Bd.v; rw [e]
 rcases (show i = 0 ∨ i = 1 ∨ i = 2 ∨ i = 3 by omega) with rfl | rfl | rfl | rfl <;> kernel_rfl
def aR6 {p : Nat} (hb : p + 8192 ≤ bs.length) : dK .byte (bY 135 8192) (cMm A acc m) bs p = cMm A acc { m with work := (bs.drop p).take 8192 } := by
 have e : ∀ m' : Mm, cMm A acc m' = (iB m' ++ (cBd m'.bd ++ tG A m')) ++ (m'.work.map (.int .u8) ++ (m'.high.map (.int .u8) ++ [acc])) := fun m' => by
  rw [mZ]; unfold fD; simp only [As_]
 rw [e, vF (by rw [La_, fQ, La_, cBd_len h.bd, midM_len]) hb h.work, e]
 rfl
def aTn {p : Nat} (hb : p + 127 ≤ bs.length) : dK .byte (bY 8327 127) (cMm A acc m) bs p = cMm A acc { m with high := (bs.drop p).take 127 } := by
 have e : ∀ m' : Mm, cMm A acc m' = (iB m' ++ (cBd m'.bd ++ (tG A m' ++ m'.work.map (.int .u8)))) ++ (m'.high.map (.int .u8) ++ [acc]) := fun m' => by
  rw [mZ]; unfold fD; simp only [As_]
 rw [e, vF (by rw [La_, fQ, La_, cBd_len h.bd, La_, midM_len, Lm_, h.work]) hb h.high, e]
 rfl
end
section
variable {A : Ad} {acc : AH} {m : Mm} (bs : AB)
def aKT (h : MLn m) : yP true (cMm A acc m, bs) = (cMm A acc (dC (dS (dI { dB (dW (dA2 { dA m bs 0 with flags := vt bs 8 1, lets := vt bs 9 1 } bs 10) bs 14) bs 20 with steps := vt bs 29 8, cycles := vt bs 37 8 } bs 45) bs 59) bs 63), bs.drop 72) := by
 have h1 : MLn (dB (dW (dA2 { dA m bs 0 with flags := vt bs 8 1, lets := vt bs 9 1 } bs 10) bs 14) bs 20) := ⟨h.bd, h.work, h.high⟩
 have h2 : MLn { dB (dW (dA2 { dA m bs 0 with flags := vt bs 8 1, lets := vt bs 9 1 } bs 10) bs 14) bs 20 with steps := vt bs 29 8 } := ⟨h.bd, h.work, h.high⟩
 unfold yP
 have e0 : (cMm A acc m, bs) = (cMm A acc m, bs.drop 0) := rfl
 rw [e0, eE bs (q := 14) rfl, aTW h, eE bs (q := 20) rfl, aUR, eE bs (q := 29) rfl, aUA, aCC bs (q := 37) rfl, aUD h1, aCC bs (q := 45) rfl, aUH h2, eE bs (q := 59) rfl, aUQ,
  eE bs (q := 63) rfl, aUs, eE bs (q := 72) rfl, aUl]
def aEq (h : MLn m) (p : Nat) : ∀ i, i ≤ 4 → ∃ b' : Bd, lG true (cMm A acc m, bs.drop p) i = (cMm A acc { m with bd := b' }, bs.drop (p + 7 * i)) ∧ b'.Ln ∧ b'.regs = m.bd.regs ∧ b'.on = m.bd.on ∧ b'.div = m.bd.div ∧ b'.step = m.bd.step ∧ b'.pitch = m.bd.pitch ∧ b'.slide = m.bd.slide ∧ b'.slides = m.bd.slides ∧ b'.vs = (sA bs p).take i ++ m.bd.vs.drop i
 | 0, _ => ⟨m.bd, rfl, h.bd, rfl, rfl, rfl, rfl, rfl, rfl, rfl, rfl⟩
 | i + 1, hi => by
  obtain ⟨b', e, hl, g1, g2, g3, g4, g5, g6, g7, g8⟩ := aEq h p i o_m
  have hi4 : i < 4 := by omega
  have h1 : MLn { m with bd := b' } := ⟨hl, h.work, h.high⟩
  have h2 : MLn { m with bd := b'.setV i (aJL (b'.v i) (bo bs (p + 7 * i))) } := ⟨⟨hl.lR, hl.bR, by show (b'.vs.set i _).length = 4; rw [ca]; exact hl.lV⟩, h.work, h.high⟩
  refine ⟨(b'.setV i (aJL (b'.v i) (bo bs (p + 7 * i)))).setV i (aTs ((b'.setV i (aJL (b'.v i) (bo bs (p + 7 * i)))).v i) (vt bs (p + 7 * i + 1) 2) (vt bs (p + 7 * i + 3) 2) (vt bs (p + 7 * i + 5) 2)), ?_, ⟨hl.lR, hl.bR, by show ((b'.vs.set i _).set i _).length = 4; rw [ca, ca]; exact hl.lV⟩, g1, g2, g3, g4, g5, g6, g7, ?_⟩
  ·show aI true (.int 2) _ (aI true .bool _ (lG true (cMm A acc m, bs.drop p) i)) = _
   rw [e, eE bs (q := p + 7 * i + 1) rfl, aTR h1 bs hi4, eE bs (q := p + 7 * (i + 1)) (by show _ = p + 7 * i + 1 + 6; omega), aTC h2 bs hi4]
  ·rw [v_set hl hi4, setV_setV]
   show b'.vs.set i _ = _
   rw [g8]
   have hv := h.bd.lV
   have ht : ((sA bs p).take i).length = i := by rw [Lt_]; show min i 4 = i; omega
   rw [List.set_append_right _ _ o_m, ht, iy, fu o_m, ai, eu]
   have key : (sA bs p)[i]? = some ⟨bo bs (p + 7 * i), vt bs (p + 7 * i + 1) 2, vt bs (p + 7 * i + 3) 2, vt bs (p + 7 * i + 5) 2⟩ := by
    rcases (show i = 0 ∨ i = 1 ∨ i = 2 ∨ i = 3 by omega) with rfl | rfl | rfl | rfl <;> rfl
   rw [key, As_]
   rfl
def aKS (hby : aT bs) (h : MLn m) {p : Nat} (hb : p + 86 ≤ bs.length) : oE true (cMm A acc m, bs.drop p) = (cMm A acc { m with bd := ⟨(bs.drop p).take 48, bo bs (p + 48), vt bs (p + 50) 2, vt bs (p + 52) 2, sA bs (p + 58), vt bs (p + 54) 2, vt bs (p + 56) 2, bo bs (p + 49)⟩ }, bs.drop (p + 86)) := by
 have h1 : MLn { m with bd := { m.bd with regs := (bs.drop p).take 48 } } := ⟨⟨by show ((bs.drop p).take 48).length = 48; rw [Lt_, Ld_]; omega, pK (iS hby p) 48, h.bd.lV⟩, h.work, h.high⟩
 have h2 : MLn { m with bd := { m.bd with regs := (bs.drop p).take 48, on := bo bs (p + 48), slides := bo bs (p + 48 + 1) } } := ⟨⟨h1.bd.lR, h1.bd.bR, h.bd.lV⟩, h.work, h.high⟩
 have h3 : MLn { m with bd := { m.bd with regs := (bs.drop p).take 48, on := bo bs (p + 48), slides := bo bs (p + 48 + 1), div := vt bs (p + 50) 2, step := vt bs (p + 50 + 2) 2, pitch := vt bs (p + 50 + 4) 2, slide := vt bs (p + 50 + 6) 2 } } := ⟨⟨h1.bd.lR, h1.bd.bR, h.bd.lV⟩, h.work, h.high⟩
 unfold oE
 rw [eE bs (q := p + 48) rfl, aUC h bs o_m, eE bs (q := p + 50) rfl, aS3 h1, eE bs (q := p + 58) rfl, aTq h2]
 obtain ⟨b', e, hl, g1, g2, g3, g4, g5, g6, g7, g8⟩ := aEq (A := A) (acc := acc) bs h3 (p + 58) 4 (av _)
 rw [e]
 have e4 : (sA bs (p + 58)).take 4 ++ m.bd.vs.drop 4 = sA bs (p + 58) := by rw [dj (by rw [h.bd.lV]; exact av _), bg]; rfl
 obtain ⟨r, o, d, s, v, pi, sl, ss⟩ := b'
 dsimp only at g1 g2 g3 g4 g5 g6 g7 g8
 rw [e4] at g8
 subst g1 g2 g3 g4 g5 g6 g7 g8
 rfl
def aEO (hby : aT bs) (h : MLn m) (hb : 8482 ≤ bs.length) : qH true (cMm A acc m, bs) = (cMm A acc (aAh m bs), bs.drop 8482) := by
 obtain ⟨m8, e8⟩ : ∃ m8, m8 = dC (dS (dI { dB (dW (dA2 { dA m bs 0 with flags := vt bs 8 1, lets := vt bs 9 1 } bs 10) bs 14) bs 20 with steps := vt bs 29 8, cycles := vt bs 37 8 } bs 45) bs 59) bs 63 := ⟨_, rfl⟩
 have h8 : MLn m8 := e8 ▸ ⟨h.bd, h.work, h.high⟩
 have h9 : MLn (dH m8 bs 72) := ⟨h8.bd, h8.work, h8.high⟩
 have hB : MLn { dH m8 bs 72 with bd := aA3 bs } := ⟨⟨by show ((bs.drop 77).take 48).length = 48; rw [Lt_, Ld_]; omega, pK (iS hby 77) 48, rfl⟩, h8.work, h8.high⟩
 have hC : MLn { dH m8 bs 72 with bd := aA3 bs, work := (bs.drop 163).take 8192 } := ⟨hB.bd, by show ((bs.drop 163).take 8192).length = 8192; rw [Lt_, Ld_]; omega, h8.high⟩
 unfold qH
 rw [aKT bs h, ← e8, eE bs (q := 77) rfl, aUB, aKS bs hby h9 (p := 77) o_m]
 show aI true .byte (bY 8327 127) (aI true .byte (bY 135 8192) (cMm A acc { dH m8 bs 72 with bd := aA3 bs }, bs.drop 163)) = _
 rw [eE bs (q := 8355) (by rw [tX]; rfl), aR6 hB bs o_m, eE bs (q := 8482) (by rw [tX]; rfl), aTn hC bs o_m, e8]
 rfl
end
def fU (k : FK) (os : AE) (L : AA) : AB := os.flatMap fun o => dE k.many (FK.at L o)
def nT {k : FK} {L : AA} : ∀ {os : AE} {bs : AB}, aI false k os (L, bs) = (L, bs ++ fU k os L)
 | [], bs => by simp [aI, fU]
 | o :: os, bs => by
  show aI false k os (L, bs ++ dE k.many (FK.at L o)) = _
  rw [nT]
  simp [fU]
def uQ (L : AA) : Nat → AB
 | 0 => []
 | i + 1 => uQ L i ++ (fU .bool [100 + 4 * i] L ++ fU (.int 2) [101 + 4 * i, 102 + 4 * i, 103 + 4 * i] L)
def aDc {L : AA} {bs : AB} : ∀ i, lG false (L, bs) i = (L, bs ++ uQ L i)
 | 0 => by simp [lG, uQ]
 | i + 1 => by
  show aI false (.int 2) _ (aI false .bool _ (lG false (L, bs) i)) = _
  rw [aDc i, nT, nT]
  simp [uQ]
def aJP (L : AA) : AB := fU .byte (bY 49 48) L ++ (fU .bool [97, 118] L ++ (fU (.int 2) [98, 99, 116, 117] L ++ uQ L 4))
def aIS (L : AA) : AB := fU .byte gA L ++ (fU .word gW L ++ (fU .bool gB L ++ (dE 8 (FK.at L 121) ++ (dE 8 (FK.at L 122) ++ (fU (.int 2) gI L ++ (fU (.int 4) [26] L ++ fU .byte gC L))))))
def aIl (L : AA) : AB := aIS L ++ (fU .byte (bY 29 5) L ++ (aJP L ++ (fU .byte (bY 135 8192) L ++ fU .byte (bY 8327 127) L)))
def aP1 {k : FK} {os : AE} (s : Ps) : aI false k os s = (s.1, s.2 ++ fU k os s.1) := nT
def aSG {k : FK} {o : Nat} (s : Ps) : pass1 false k s o = (s.1, s.2 ++ dE k.many (FK.at s.1 o)) := rfl
def aSV {i : Nat} (s : Ps) : lG false s i = (s.1, s.2 ++ uQ s.1 i) := aDc i
def aCP {α β : Type} {f g : α → List β} : ∀ {l : List α}, (∀ i ∈ l, f i = g i) → l.flatMap f = l.flatMap g
 | [], _ => rfl
 | a :: l, h => by rw [fm, fm, h a (.head _), aCP fun i hi => h i (.tail _ hi)]
def aGq {α β : Type} (f : α → β) : ∀ l : List α, (l.flatMap fun i => [f i]) = l.map f
 | [] => rfl
 | a :: l => by rw [fm, aGq f l]; rfl
def aDf {L : AA} {bs : AB} : qH false (L, bs) = (L, bs ++ aIl L) := by
 unfold qH oE yP aIl aIS aJP
 simp only [aP1, aSG, aSV, As_, FK.many]
def iK {L : AA} {o : Nat} {k : AM} {x : Int} (h : L[o]? = some (.int k x)) : FK.at L o = x := by unfold FK.at; rw [h]
def tU {L : AA} {o : Nat} {b : Bool} (h : L[o]? = some (.bool b)) : FK.at L o = eG b := by unfold FK.at; rw [h]; rfl
def aNM {x : Int} (h : 0 ≤ x ∧ x < 256) : dE 1 x = [x] := by
 show [x / 256 ^ 0 % 256] = [x]
 rw [show x / 256 ^ 0 % 256 = x by show x / 1 % 256 = x; omega]
def zX {X Y : AA} {l : AB} {a n : Nat} (hX : X.length = a) (hl : l.length = n) (hb : aT l) : fU .byte (bY a n) (X ++ (l.map (.int .u8) ++ Y)) = l := by
 have e1 : fU .byte (bY a n) (X ++ (l.map (.int .u8) ++ Y)) = (List.range n).flatMap fun i => [l.getD i 0] := by
  unfold fU bY
  rw [List.flatMap_map]
  have : ∀ i ∈ List.range n, dE FK.byte.many (FK.at (X ++ (l.map (.int .u8) ++ Y)) (a + i)) = [l.getD i 0] := fun i hi => by
   rw [iK (k := .u8) (bU (n := i) (by rw [hX]) (eI (cX (by rw [hl]; exact List.mem_range.1 hi))))]
   exact aNM (hb.get i)
  exact aCP this
 rw [e1]
 subst hl
 refine List.ext_getElem? fun i => ?_
 rw [aGq, cq]
 by_cases hi : i < l.length
 ·rw [gq hi, ak hi]
  simp [Gd_, ak hi]
 ·rw [dm (by simpa using hi), dm o_m]; rfl
def aGf (v : Vc) : AB := dE 1 (eG v.on) ++ (dE 2 v.len ++ (dE 2 v.lev ++ dE 2 v.wait))
def pX (b : Bd) : AB := b.regs ++ ((dE 1 (eG b.on) ++ dE 1 (eG b.slides)) ++ ((dE 2 b.div ++ (dE 2 b.step ++ (dE 2 b.pitch ++ dE 2 b.slide))) ++ b.vs.flatMap aGf))
def dQ (m : Mm) (t : AB) : AB :=
 dgt m.cpu.r.a 0 :: dgt m.cpu.r.f 0 :: dgt m.cpu.r.b 0 :: dgt m.cpu.r.c 0 :: dgt m.cpu.r.d 0 :: dgt m.cpu.r.e 0 :: dgt m.cpu.r.h 0 :: dgt m.cpu.r.l 0 :: dgt m.flags 0 :: dgt m.lets 0 :: dgt m.bk.last 0 :: dgt m.pd.sel 0 :: dgt m.pd.down 0 :: dgt m.cp.page 0 ::
 dgt m.cpu.r.sp 0 :: dgt m.cpu.r.sp 1 :: dgt m.cpu.r.pc 0 :: dgt m.cpu.r.pc 1 :: dgt m.tm.cnt 0 :: dgt m.tm.cnt 1 ::
 dgt (eG m.cpu.ime) 0 :: dgt (eG m.cpu.soon) 0 :: dgt (eG m.cpu.halt) 0 :: dgt (eG m.cpu.stop) 0 :: dgt (eG m.bk.on) 0 :: dgt (eG m.bk.mode) 0 :: dgt (eG m.tm.over) 0 :: dgt (eG m.ck.halt) 0 :: dgt (eG m.ck.carry) 0 ::
 (dE 8 m.steps ++ (dE 8 m.cycles ++
 (dgt m.bk.low 0 :: dgt m.bk.low 1 :: dgt m.bk.high 0 :: dgt m.bk.high 1 :: dgt m.ck.day 0 :: dgt m.ck.day 1 :: dgt m.pt.bits 0 :: dgt m.pt.bits 1 :: dgt m.pt.count 0 :: dgt m.pt.count 1 :: dgt m.pt.sent 0 :: dgt m.pt.sent 1 :: dgt m.cp.left 0 :: dgt m.cp.left 1 ::
 dgt m.ck.sub 0 :: dgt m.ck.sub 1 :: dgt m.ck.sub 2 :: dgt m.ck.sub 3 ::
 dgt m.ck.s 0 :: dgt m.ck.m 0 :: dgt m.ck.h 0 :: dgt m.tm.tima 0 :: dgt m.tm.tma 0 :: dgt m.tm.tac 0 :: dgt m.pt.data 0 :: dgt m.pt.control 0 :: dgt m.pt.last 0 ::
 dgt m.ck.h0 0 :: dgt m.ck.h1 0 :: dgt m.ck.h2 0 :: dgt m.ck.h3 0 :: dgt m.ck.h4 0 :: t)))
def mJ (m : Mm) : AB := dQ m (pX m.bd ++ (m.work ++ m.high))
section
variable {A : Ad} {acc : AH} {m : Mm}
def aTZ : fU .word gW (cMm A acc m) = [dgt m.cpu.r.sp 0, dgt m.cpu.r.sp 1, dgt m.cpu.r.pc 0, dgt m.cpu.r.pc 1, dgt m.tm.cnt 0, dgt m.tm.cnt 1] := by kernel_rfl
def aS0 : fU .bool gB (cMm A acc m) = [dgt (eG m.cpu.ime) 0, dgt (eG m.cpu.soon) 0, dgt (eG m.cpu.halt) 0, dgt (eG m.cpu.stop) 0, dgt (eG m.bk.on) 0, dgt (eG m.bk.mode) 0, dgt (eG m.tm.over) 0, dgt (eG m.ck.halt) 0, dgt (eG m.ck.carry) 0] := by kernel_rfl
def aUN : fU (.int 2) gI (cMm A acc m) = [dgt m.bk.low 0, dgt m.bk.low 1, dgt m.bk.high 0, dgt m.bk.high 1, dgt m.ck.day 0, dgt m.ck.day 1, dgt m.pt.bits 0, dgt m.pt.bits 1, dgt m.pt.count 0, dgt m.pt.count 1, dgt m.pt.sent 0, dgt m.pt.sent 1, dgt m.cp.left 0, dgt m.cp.left 1] := by kernel_rfl
def aUh : fU (.int 4) [26] (cMm A acc m) = [dgt m.ck.sub 0, dgt m.ck.sub 1, dgt m.ck.sub 2, dgt m.ck.sub 3] := by kernel_rfl
def aUz : fU .byte gC (cMm A acc m) = [dgt m.ck.s 0, dgt m.ck.m 0, dgt m.ck.h 0, dgt m.tm.tima 0, dgt m.tm.tma 0, dgt m.tm.tac 0, dgt m.pt.data 0, dgt m.pt.control 0, dgt m.pt.last 0] := by kernel_rfl
def aUG : fU .byte (bY 29 5) (cMm A acc m) = [dgt m.ck.h0 0, dgt m.ck.h1 0, dgt m.ck.h2 0, dgt m.ck.h3 0, dgt m.ck.h4 0] := by kernel_rfl
def aT5 (h : MLn m) : fU .byte gA (cMm A acc m) = [dgt m.cpu.r.a 0, dgt m.cpu.r.f 0, dgt m.cpu.r.b 0, dgt m.cpu.r.c 0, dgt m.cpu.r.d 0, dgt m.cpu.r.e 0, dgt m.cpu.r.h 0, dgt m.cpu.r.l 0, dgt m.flags 0, dgt m.lets 0, dgt m.bk.last 0, dgt m.pd.sel 0, dgt m.pd.down 0, dgt m.cp.page 0] := by
 have e1 : FK.at (cMm A acc m) 119 = m.flags := iK (get_mid h (j := 0) rfl)
 have e2 : FK.at (cMm A acc m) 120 = m.lets := iK (get_mid h (j := 1) rfl)
 have key : fU .byte gA (cMm A acc m) = [dgt m.cpu.r.a 0, dgt m.cpu.r.f 0, dgt m.cpu.r.b 0, dgt m.cpu.r.c 0, dgt m.cpu.r.d 0, dgt m.cpu.r.e 0, dgt m.cpu.r.h 0, dgt m.cpu.r.l 0, dgt (FK.at (cMm A acc m) 119) 0, dgt (FK.at (cMm A acc m) 120) 0, dgt m.bk.last 0, dgt m.pd.sel 0, dgt m.pd.down 0, dgt m.cp.page 0] := by kernel_rfl
 rw [key, e1, e2]
def aTl (h : MLn m) : FK.at (cMm A acc m) 121 = m.steps := iK (get_mid h (j := 2) rfl)
def aTc (h : MLn m) : FK.at (cMm A acc m) 122 = m.cycles := iK (get_mid h (j := 3) rfl)
def aNW (h : MLn m) (t : AB) : aIS (cMm A acc m) ++ (fU .byte (bY 29 5) (cMm A acc m) ++ t) = dQ m t := by
 unfold aIS
 rw [aT5 h, aTZ, aS0, aTl h, aTc h, aUN, aUh, aUz, aUG]
 unfold dQ
 simp only [As_, cr, ci]
def aLx (h : MLn m) {j : Nat} {v : AH} (hv : (oO m.bd)[j]? = some v) : (cMm A acc m)[97 + j]? = some v := by
 rw [uR]
 exact bU (n := j) (by rw [La_, fQ, Lm_, h.bd.lR]) (eI hv)
def aNc (h : MLn m) : aJP (cMm A acc m) = pX m.bd := by
 obtain ⟨a, b, c, d, e⟩ := tV h
 have e1 : fU .byte (bY 49 48) (cMm A acc m) = m.bd.regs := by rw [uR, As_]; exact zX fQ h.bd.lR h.bd.bR
 have hE : oO m.bd = [.bool m.bd.on, .int .i64 m.bd.div, .int .i64 m.bd.step] ++ ((cVc a ++ (cVc b ++ (cVc c ++ (cVc d ++ [])))) ++ [.int .i64 m.bd.pitch, .int .i64 m.bd.slide, .bool m.bd.slides]) := by unfold oO; rw [e]; rfl
 have g : ∀ j v, ([.bool m.bd.on, .int .i64 m.bd.div, .int .i64 m.bd.step] ++ ((cVc a ++ (cVc b ++ (cVc c ++ (cVc d ++ [])))) ++ [.int .i64 m.bd.pitch, .int .i64 m.bd.slide, .bool m.bd.slides]) : AA)[j]? = some v → (cMm A acc m)[97 + j]? = some v := fun j v hv => aLx h (by rw [hE]; exact hv)
 have a0 := tU (g 0 _ rfl); have a1 := iK (g 1 _ rfl); have a2 := iK (g 2 _ rfl)
 have a3 := tU (g 3 _ rfl); have a4 := iK (g 4 _ rfl); have a5 := iK (g 5 _ rfl); have a6 := iK (g 6 _ rfl)
 have a7 := tU (g 7 _ rfl); have a8 := iK (g 8 _ rfl); have a9 := iK (g 9 _ rfl); have a10 := iK (g 10 _ rfl)
 have a11 := tU (g 11 _ rfl); have a12 := iK (g 12 _ rfl); have a13 := iK (g 13 _ rfl); have a14 := iK (g 14 _ rfl)
 have a15 := tU (g 15 _ rfl); have a16 := iK (g 16 _ rfl); have a17 := iK (g 17 _ rfl); have a18 := iK (g 18 _ rfl)
 have a19 := iK (g 19 _ rfl); have a20 := iK (g 20 _ rfl); have a21 := tU (g 21 _ rfl)
 unfold aJP pX uQ uQ uQ uQ uQ
 rw [e1, e]
 simp only [fU, fm, List.flatMap_nil, bg, ci, FK.many, Nat.mul_zero, gb, Nat.reduceMul, Nat.reduceAdd] at a0 a1 a2 a3 a4 a5 a6 a7 a8 a9 a10 a11 a12 a13 a14 a15 a16 a17 a18 a19 a20 a21 ⊢
 rw [a0, a1, a2, a3, a4, a5, a6, a7, a8, a9, a10, a11, a12, a13, a14, a15, a16, a17, a18, a19, a20, a21]
 simp only [aGf, As_]
def aOu (h : m.Wf) : aIl (cMm A acc m) = mJ m := by
 unfold aIl mJ
 have e1 : fU .byte (bY 135 8192) (cMm A acc m) = m.work := by
  have e : cMm A acc m = (iB m ++ (cBd m.bd ++ tG A m)) ++ (m.work.map (.int .u8) ++ (m.high.map (.int .u8) ++ [acc])) := by rw [mZ]; unfold fD; simp only [As_]
  rw [e]; exact zX (by rw [La_, fQ, La_, cBd_len h.ln.bd, midM_len]) h.lWork h.bWork
 have e2 : fU .byte (bY 8327 127) (cMm A acc m) = m.high := by
  have e : cMm A acc m = (iB m ++ (cBd m.bd ++ (tG A m ++ m.work.map (.int .u8)))) ++ (m.high.map (.int .u8) ++ [acc]) := by rw [mZ]; unfold fD; simp only [As_]
  rw [e]; exact zX (by rw [La_, fQ, La_, cBd_len h.ln.bd, La_, midM_len, Lm_, h.lWork]) h.lHigh h.bHigh
 rw [aNc h.ln, e1, e2]
 exact aNW h.ln _
end
def mN {bs : AB} (h : aT bs) (p n : Nat) : 0 ≤ vt bs p n ∧ vt bs p n < 256 ^ n := val_ok (iS h p) n
def aRM {A B : AB} {j : Nat} (h : j < A.length) : (A ++ B).getD j 0 = A.getD j 0 := by
 rw [Gd_, cx h, ← Gd_]
def aJK {bs : AB} {p n : Nat} {x : Int} {t : AB} (h : bs.drop p = dE n x ++ t) : vt bs p n = x % 256 ^ n := by
 unfold vt
 rw [h, aEE n (m := dE n x) fun j hj => aRM (by rw [rG]; exact hj)]
 exact aFF x n n (av _)
section
variable {m : Mm} {t : AB}
def aAL (p k : Nat) (x : Int) (h : (dQ m t).drop p = dE k x ++ (dQ m t).drop (p + k)) : vt (dQ m t) p k = x % 256 ^ k := aJK h
def fJ {p : Nat} {x : Int} (hx : 0 ≤ x ∧ x < 256) (h : (dQ m t).drop p = dE 1 x ++ (dQ m t).drop (p + 1)) : vt (dQ m t) p 1 = x := by rw [aAL p 1 x h]; show x % 256 = x; omega
def sF {p : Nat} {x : Int} (hx : 0 ≤ x ∧ x < 65536) (h : (dQ m t).drop p = dE 2 x ++ (dQ m t).drop (p + 2)) : vt (dQ m t) p 2 = x := by rw [aAL p 2 x h]; show x % 65536 = x; omega
def aPx {x : Int} {b : Bool} (h : x = eG b) : (x == 1) = b := by subst h; cases b <;> rfl
def yT {p : Nat} {b : Bool} (h : (dQ m t).drop p = dE 1 (eG b) ++ (dQ m t).drop (p + 1)) : bo (dQ m t) p = b := aPx (fJ (by cases b <;> decide) h)
def aMM (h : m.Wf) (hr : m.cpu.r.Ok) (hd : 0 ≤ m.ck.day ∧ m.ck.day < 65536) (n : Mm) : aOT n (dQ m t) = { n with cpu := m.cpu, bk := { n.bk with last := m.bk.last, on := m.bk.on, mode := m.bk.mode, low := m.bk.low, high := m.bk.high }, ck := m.ck, tm := m.tm, pd := m.pd, pt := m.pt, cp := m.cp, flags := m.flags, lets := m.lets, steps := m.steps, cycles := m.cycles } := by
 have hb := h.ck.byH
 have k : ∀ x ∈ m.ck.held, 0 ≤ x ∧ x < 256 := hb
 have g0 := k m.ck.h0 y_b2; have g1 := k m.ck.h1 y_b2; have g2 := k m.ck.h2 y_b2; have g3 := k m.ck.h3 y_b2; have g4 := k m.ck.h4 y_b2
 have s8 : vt (dQ m t) 29 8 = m.steps := by rw [aAL 29 8 m.steps y_f]; have := h.steps; show m.steps % 18446744073709551616 = _; omega
 have s9 : vt (dQ m t) 37 8 = m.cycles := by rw [aAL 37 8 m.cycles y_f]; have := h.cycles; show m.cycles % 18446744073709551616 = _; omega
 have s4 : vt (dQ m t) 59 4 = m.ck.sub := by rw [aAL 59 4 m.ck.sub y_f]; have := h.ck.sub; show m.ck.sub % 4294967296 = _; omega
 unfold aOT
 rw [fJ (p := 0) hr.a y_f, fJ (p := 1) hr.f y_f, fJ (p := 2) hr.b y_f, fJ (p := 3) hr.c y_f, fJ (p := 4) hr.d y_f, fJ (p := 5) hr.e y_f, fJ (p := 6) hr.h y_f, fJ (p := 7) hr.l y_f,
  sF (p := 14) hr.sp y_f, sF (p := 16) hr.pc y_f, yT (p := 20) (b := m.cpu.ime) y_f, yT (p := 21) (b := m.cpu.soon) y_f, yT (p := 22) (b := m.cpu.halt) y_f, yT (p := 23) (b := m.cpu.stop) y_f,
  fJ (p := 10) h.bk.last y_f, yT (p := 24) (b := m.bk.on) y_f, yT (p := 25) (b := m.bk.mode) y_f, sF (p := 45) h.bk.low y_f, sF (p := 47) h.bk.high y_f,
  fJ (p := 63) h.ck.s y_f, fJ (p := 64) h.ck.m y_f, fJ (p := 65) h.ck.h y_f, sF (p := 49) hd y_f, s4, yT (p := 27) (b := m.ck.halt) y_f, yT (p := 28) (b := m.ck.carry) y_f,
  fJ (p := 72) g0 y_f, fJ (p := 73) g1 y_f, fJ (p := 74) g2 y_f, fJ (p := 75) g3 y_f, fJ (p := 76) g4 y_f,
  sF (p := 18) h.tm.cnt y_f, fJ (p := 66) h.tm.tima y_f, fJ (p := 67) h.tm.tma y_f, fJ (p := 68) h.tm.tac y_f, yT (p := 26) (b := m.tm.over) y_f,
  fJ (p := 11) h.pd.sel y_f, fJ (p := 12) h.pd.down y_f, fJ (p := 69) h.pt.data y_f, fJ (p := 70) h.pt.control y_f, fJ (p := 71) h.pt.last y_f, sF (p := 51) h.pt.bits y_f, sF (p := 53) h.pt.count y_f, sF (p := 55) h.pt.sent y_f,
  fJ (p := 13) h.cp.page y_f, sF (p := 57) h.cp.left y_f, fJ (p := 8) h.flags y_f, fJ (p := 9) h.lets y_f, s8, s9]
def xW : (dQ m t).drop 77 = t := by kernel_rfl
def aUu (j k : Nat) : vt (dQ m t) (77 + j) k = vt t j k := by unfold vt; rw [← ax, xW]
end
section
variable {b : Bd} (h : b.Wf) (t : AB)
def aEm (h : b.Ln) : (pX b).length = 86 := by
 have h4 := h.lV
 unfold pX
 have : ∀ l : List Vc, (l.flatMap aGf).length = 7 * l.length := fun l => by
  induction l with
  | nil => rfl
  | cons v l ih => rw [fm, La_, ih, Lc_]; show 7 + _ = _; omega
 simp only [La_, this, rG, h4, h.lR]
include h
def aLN {m : Mm} (X : AB) (e : m.bd = b) : aA3 (dQ m (pX b ++ X)) = b := by
 obtain ⟨R, on, div, step, vs, pitch, slide, slides⟩ := b
 have hR : R.length = 48 := h.lR
 have h4 : vs.length = 4 := h.lV
 obtain ⟨v0, v1, v2, v3, rfl⟩ : ∃ a b c d, vs = [a, b, c, d] := by
  match vs, h4 with
  | [a, b, c, d], _ => exact ⟨a, b, c, d, rfl⟩
 have o0 := h.oV v0 y_r; have o1 := h.oV v1 y_r; have o2 := h.oV v2 y_r; have o3 := h.oV v3 y_r
 obtain ⟨E, hE⟩ : ∃ E, E = ((dE 1 (eG on) ++ dE 1 (eG slides)) ++ ((dE 2 div ++ (dE 2 step ++ (dE 2 pitch ++ dE 2 slide))) ++ ([v0, v1, v2, v3].flatMap aGf))) ++ X := ⟨_, rfl⟩
 have e1 : pX ⟨R, on, div, step, [v0, v1, v2, v3], pitch, slide, slides⟩ ++ X = R ++ E := by rw [hE]; unfold pX; simp only [As_]
 rw [e1]
 have d48 : ∀ j k, vt (dQ m (R ++ E)) (125 + j) k = vt E j k := fun j k => by
  rw [show 125 + j = 77 + (48 + j) by omega, aUu]; unfold vt; rw [← ax, dx hR]
 have b48 : ∀ j, bo (dQ m (R ++ E)) (125 + j) = bo E j := fun j => by unfold bo; rw [d48]
 have w : ∀ {j : Nat} {x : Int} (T : AB), (0 ≤ x ∧ x < 65536) → E.drop j = dE 2 x ++ T → vt E j 2 = x := fun T hx he => by rw [aJK he]; show _ % 65536 = _; omega
 have z : ∀ {j : Nat} {x : Bool} (T : AB), E.drop j = dE 1 (eG x) ++ T → bo E j = x := fun {j} {x} T he => aPx (by rw [aJK he]; cases x <;> rfl)
 unfold aA3 sA
 have r : ((dQ m (R ++ E)).drop 77).take 48 = R := by rw [xW, eh hR]
 rw [r]
 have f := fun j k => d48 j k
 rw [show bo (dQ m (R ++ E)) 125 = on from (b48 0).trans (z (E.drop 1) y_S), show bo (dQ m (R ++ E)) 126 = slides from (b48 1).trans (z (E.drop 2) y_S),
  show vt (dQ m (R ++ E)) 127 2 = div from (d48 2 2).trans (w (E.drop 4) h.div y_S), show vt (dQ m (R ++ E)) 129 2 = step from (d48 4 2).trans (w (E.drop 6) h.step y_S),
  show vt (dQ m (R ++ E)) 131 2 = pitch from (d48 6 2).trans (w (E.drop 8) h.pitch y_S), show vt (dQ m (R ++ E)) 133 2 = slide from (d48 8 2).trans (w (E.drop 10) h.slide y_S),
  show bo (dQ m (R ++ E)) 135 = v0.on from (b48 10).trans (z (E.drop 11) y_S), show vt (dQ m (R ++ E)) (135 + 1) 2 = v0.len from (d48 11 2).trans (w (E.drop 13) o0.len y_S), show vt (dQ m (R ++ E)) (135 + 3) 2 = v0.lev from (d48 13 2).trans (w (E.drop 15) o0.lev y_S), show vt (dQ m (R ++ E)) (135 + 5) 2 = v0.wait from (d48 15 2).trans (w (E.drop 17) o0.wait y_S),
  show bo (dQ m (R ++ E)) (135 + 7) = v1.on from (b48 17).trans (z (E.drop 18) y_S), show vt (dQ m (R ++ E)) (135 + 8) 2 = v1.len from (d48 18 2).trans (w (E.drop 20) o1.len y_S), show vt (dQ m (R ++ E)) (135 + 10) 2 = v1.lev from (d48 20 2).trans (w (E.drop 22) o1.lev y_S), show vt (dQ m (R ++ E)) (135 + 12) 2 = v1.wait from (d48 22 2).trans (w (E.drop 24) o1.wait y_S),
  show bo (dQ m (R ++ E)) (135 + 14) = v2.on from (b48 24).trans (z (E.drop 25) y_S), show vt (dQ m (R ++ E)) (135 + 15) 2 = v2.len from (d48 25 2).trans (w (E.drop 27) o2.len y_S), show vt (dQ m (R ++ E)) (135 + 17) 2 = v2.lev from (d48 27 2).trans (w (E.drop 29) o2.lev y_S), show vt (dQ m (R ++ E)) (135 + 19) 2 = v2.wait from (d48 29 2).trans (w (E.drop 31) o2.wait y_S),
  show bo (dQ m (R ++ E)) (135 + 21) = v3.on from (b48 31).trans (z (E.drop 32) y_S), show vt (dQ m (R ++ E)) (135 + 22) 2 = v3.len from (d48 32 2).trans (w (E.drop 34) o3.len y_S), show vt (dQ m (R ++ E)) (135 + 24) 2 = v3.lev from (d48 34 2).trans (w (E.drop 36) o3.lev y_S), show vt (dQ m (R ++ E)) (135 + 26) 2 = v3.wait from (d48 36 2).trans (w (E.drop 38) o3.wait y_S)]
end
section
variable {m : Mm} (h : m.Wf)
include h
omit h in
def aOV (t : AB) : (dQ m t).length = 77 + t.length := by unfold dQ; simp only [Lc_, La_, rG]; omega
def aBM : (mJ m).length = 8482 := by unfold mJ; rw [aOV, La_, La_, aEm h.ln.bd, h.lWork, h.lHigh]
omit h in
def aOQ (t X : AB) : dQ m t ++ X = dQ m (t ++ X) := by unfold dQ; simp only [cr, As_]
omit h in
def aMK : ∀ {x : Int} {i : Nat} {l : AB}, aT l → aT (dgt x i :: l) := fun hl y hy => by
 rcases List.mem_cons.1 hy with rfl | hy
 ·exact aKw _ _
 ·exact hl y hy
omit h in
def aLu {t : AB} (ht : aT t) : aT (dQ m t) := by
 unfold dQ
 repeat refine aMK ?_
 exact ht
def aLr : aT (mJ m) := by
 have hV : ∀ l : List Vc, aT (l.flatMap aGf) := fun l => by
  induction l with
  | nil => intro x hx; cases hx
  | cons v l ih => rw [fm]; exact gE (gE (iQ _ _) (gE (iQ _ _) (gE (iQ _ _) (iQ _ _)))) ih
 have hB : aT (pX m.bd) := gE h.bd.bR (gE (gE (iQ _ _) (iQ _ _)) (gE (gE (iQ _ _) (gE (iQ _ _) (gE (iQ _ _) (iQ _ _)))) (hV _)))
 exact aLu (gE hB (gE h.bWork h.bHigh))
def aNJ (hr : m.cpu.r.Ok) (hd : 0 ≤ m.ck.day ∧ m.ck.day < 65536) (n : Mm) (X : AB) : aAh n (mJ m ++ X) = { n with cpu := m.cpu, bk := { n.bk with last := m.bk.last, on := m.bk.on, mode := m.bk.mode, low := m.bk.low, high := m.bk.high }, ck := m.ck, tm := m.tm, pd := m.pd, pt := m.pt, cp := m.cp, bd := m.bd, flags := m.flags, lets := m.lets, steps := m.steps, cycles := m.cycles, work := m.work, high := m.high } := by
 unfold aAh mJ
 rw [aOQ, aMM h hr hd, As_, aLN h.bd _ rfl]
 have hl := aEm h.ln.bd
 have e1 : ((dQ m (pX m.bd ++ (m.work ++ m.high ++ X))).drop 163).take 8192 = m.work := by
  rw [show 163 = 77 + 86 by rfl, ← ax, xW, dx hl, As_, eh h.lWork]
 have e2 : ((dQ m (pX m.bd ++ (m.work ++ m.high ++ X))).drop 8355).take 127 = m.high := by
  rw [show 8355 = 77 + (86 + 8192) by rfl, ← ax, xW, ← ax, dx hl, As_, dx h.lWork, eh h.lHigh]
 rw [e1, e2]
def aH9 {bs : AB} (hb : aT bs) (hl : 8482 ≤ bs.length) : (aAh m bs).Wf := by
 have v1 := fun p => mN hb p 1
 have v2 := fun p => mN hb p 2
 have v4 := fun p => mN hb p 4
 have v8 := fun p => mN hb p 8
 have w2 : ∀ p, -9223372036854775808 ≤ vt bs p 2 ∧ vt bs p 2 ≤ 9223372036854775807 := fun p => by have h2 := v2 p; omega
 refine ⟨⟨h.bk.kind, h.bk.banks, h.bk.ram, v2 _, v2 _, v1 _⟩, ⟨⟨v1 _, v1 _, v1 _, w2 _, fun x hx => ?_⟩, v4 _⟩, ⟨v2 _, v1 _, v1 _, v1 _⟩, ⟨v1 _, v1 _⟩, ⟨v1 _, v1 _, v1 _, v2 _, v2 _, v2 _⟩, ⟨v1 _, v2 _⟩, ⟨?_, pK (iS hb 77) 48, rfl, v2 _, v2 _, fun v hv => ?_, v2 _, v2 _⟩, v1 _, v1 _, v8 _, v8 _, h.u, h.banks, h.lRom, h.bRom, h.lRam, h.bRam, ?_, pK (iS hb 163) 8192, ?_, pK (iS hb 8355) 127⟩
 ·have hx' : x ∈ [vt bs 72 1, vt bs 73 1, vt bs 74 1, vt bs 75 1, vt bs 76 1] := hx
  simp only [d6, dz, or_false] at hx'
  rcases hx' with rfl | rfl | rfl | rfl | rfl <;> exact v1 _
 ·show ((bs.drop 77).take 48).length = 48
  rw [Lt_, Ld_]; omega
 ·have hv' : v ∈ sA bs 135 := hv
  simp only [sA, d6, dz, or_false] at hv'
  rcases hv' with rfl | rfl | rfl | rfl <;> exact ⟨v2 _, v2 _, v2 _⟩
 ·show ((bs.drop 163).take 8192).length = 8192
  rw [Lt_, Ld_]; omega
 ·show ((bs.drop 8355).take 127).length = 127
  rw [Lt_, Ld_]; omega
omit h in
def aLy {bs : AB} (hb : aT bs) : (aAh m bs).cpu.r.Ok := ⟨mN hb 0 1, mN hb 1 1, mN hb 2 1, mN hb 3 1, mN hb 4 1, mN hb 5 1, mN hb 6 1, mN hb 7 1, mN hb 14 2, mN hb 16 2⟩
end
def gO {L : AA} {o : Nat} {b : Bool} (h : L[o]? = some (.bool b)) : Fit .bool L o := ⟨eG b, by rw [h]; cases b <;> rfl, by cases b; exact .inl rfl; exact .inr rfl⟩
def fZ {x : Int} (h : 0 ≤ x ∧ x < 65536) : -9223372036854775808 ≤ x ∧ x ≤ 9223372036854775807 := by omega
def aQq {x : Int} (h : 0 ≤ x ∧ x < 4294967296) : -9223372036854775808 ≤ x ∧ x ≤ 9223372036854775807 := by omega
section
variable {A : Ad} {acc : AH} {m : Mm} (h : m.Wf) (hr : m.cpu.r.Ok)
include h hr
def aNk {o : Nat} {k : FK} (ho : o < 49) (hk : tyM o = some k) : Fit k (iB m) o := by
 rcases (show o = 0 ∨ o = 1 ∨ o = 2 ∨ o = 3 ∨ o = 4 ∨ o = 5 ∨ o = 6 ∨ o = 7 ∨ o = 8 ∨ o = 9 ∨ o = 10 ∨ o = 11 ∨ o = 12 ∨ o = 13 ∨ o = 14 ∨ o = 15 ∨ o = 16 ∨ o = 17 ∨ o = 18 ∨ o = 19 ∨ o = 20 ∨ o = 21 ∨ o = 22 ∨ o = 23 ∨ o = 24 ∨ o = 25 ∨ o = 26 ∨ o = 27 ∨ o = 28 ∨ o = 29 ∨ o = 30 ∨ o = 31 ∨ o = 32 ∨ o = 33 ∨ o = 34 ∨ o = 35 ∨ o = 36 ∨ o = 37 ∨ o = 38 ∨ o = 39 ∨ o = 40 ∨ o = 41 ∨ o = 42 ∨ o = 43 ∨ o = 44 ∨ o = 45 ∨ o = 46 ∨ o = 47 ∨ o = 48 by omega) with rfl | rfl | rfl | rfl | rfl | rfl | rfl | rfl | rfl | rfl | rfl | rfl | rfl | rfl | rfl | rfl | rfl | rfl | rfl | rfl | rfl | rfl | rfl | rfl | rfl | rfl | rfl | rfl | rfl | rfl | rfl | rfl | rfl | rfl | rfl | rfl | rfl | rfl | rfl | rfl | rfl | rfl | rfl | rfl | rfl | rfl | rfl | rfl | rfl
 ·obtain rfl : FK.byte = k := ag hk
  exact ⟨_, rfl, hr.a⟩
 ·obtain rfl : FK.byte = k := ag hk
  exact ⟨_, rfl, hr.f⟩
 ·obtain rfl : FK.byte = k := ag hk
  exact ⟨_, rfl, hr.b⟩
 ·obtain rfl : FK.byte = k := ag hk
  exact ⟨_, rfl, hr.c⟩
 ·obtain rfl : FK.byte = k := ag hk
  exact ⟨_, rfl, hr.d⟩
 ·obtain rfl : FK.byte = k := ag hk
  exact ⟨_, rfl, hr.e⟩
 ·obtain rfl : FK.byte = k := ag hk
  exact ⟨_, rfl, hr.h⟩
 ·obtain rfl : FK.byte = k := ag hk
  exact ⟨_, rfl, hr.l⟩
 ·obtain rfl : FK.word = k := ag hk
  exact ⟨_, rfl, hr.sp⟩
 ·obtain rfl : FK.word = k := ag hk
  exact ⟨_, rfl, hr.pc⟩
 ·obtain rfl : FK.bool = k := ag hk
  exact gO rfl
 ·obtain rfl : FK.bool = k := ag hk
  exact gO rfl
 ·obtain rfl : FK.bool = k := ag hk
  exact gO rfl
 ·obtain rfl : FK.bool = k := ag hk
  exact gO rfl
 ·cases (show (none : Option FK) = some k from hk)
 ·cases (show (none : Option FK) = some k from hk)
 ·cases (show (none : Option FK) = some k from hk)
 ·obtain rfl : FK.bool = k := ag hk
  exact gO rfl
 ·obtain rfl : FK.bool = k := ag hk
  exact gO rfl
 ·obtain rfl : FK.int 2 = k := ag hk
  exact ⟨_, rfl, (fZ h.bk.low)⟩
 ·obtain rfl : FK.int 2 = k := ag hk
  exact ⟨_, rfl, (fZ h.bk.high)⟩
 ·obtain rfl : FK.byte = k := ag hk
  exact ⟨_, rfl, h.bk.last⟩
 ·obtain rfl : FK.byte = k := ag hk
  exact ⟨_, rfl, h.ck.s⟩
 ·obtain rfl : FK.byte = k := ag hk
  exact ⟨_, rfl, h.ck.m⟩
 ·obtain rfl : FK.byte = k := ag hk
  exact ⟨_, rfl, h.ck.h⟩
 ·obtain rfl : FK.int 2 = k := ag hk
  exact ⟨_, rfl, h.ck.day⟩
 ·obtain rfl : FK.int 4 = k := ag hk
  exact ⟨_, rfl, (aQq h.ck.sub)⟩
 ·obtain rfl : FK.bool = k := ag hk
  exact gO rfl
 ·obtain rfl : FK.bool = k := ag hk
  exact gO rfl
 ·obtain rfl : FK.byte = k := ag hk
  exact ⟨_, rfl, (h.ck.byH m.ck.h0 y_b2)⟩
 ·obtain rfl : FK.byte = k := ag hk
  exact ⟨_, rfl, (h.ck.byH m.ck.h1 y_b2)⟩
 ·obtain rfl : FK.byte = k := ag hk
  exact ⟨_, rfl, (h.ck.byH m.ck.h2 y_b2)⟩
 ·obtain rfl : FK.byte = k := ag hk
  exact ⟨_, rfl, (h.ck.byH m.ck.h3 y_b2)⟩
 ·obtain rfl : FK.byte = k := ag hk
  exact ⟨_, rfl, (h.ck.byH m.ck.h4 y_b2)⟩
 ·obtain rfl : FK.word = k := ag hk
  exact ⟨_, rfl, h.tm.cnt⟩
 ·obtain rfl : FK.byte = k := ag hk
  exact ⟨_, rfl, h.tm.tima⟩
 ·obtain rfl : FK.byte = k := ag hk
  exact ⟨_, rfl, h.tm.tma⟩
 ·obtain rfl : FK.byte = k := ag hk
  exact ⟨_, rfl, h.tm.tac⟩
 ·obtain rfl : FK.bool = k := ag hk
  exact gO rfl
 ·obtain rfl : FK.byte = k := ag hk
  exact ⟨_, rfl, h.pd.sel⟩
 ·obtain rfl : FK.byte = k := ag hk
  exact ⟨_, rfl, h.pd.down⟩
 ·obtain rfl : FK.byte = k := ag hk
  exact ⟨_, rfl, h.pt.data⟩
 ·obtain rfl : FK.byte = k := ag hk
  exact ⟨_, rfl, h.pt.control⟩
 ·obtain rfl : FK.byte = k := ag hk
  exact ⟨_, rfl, h.pt.last⟩
 ·obtain rfl : FK.int 2 = k := ag hk
  exact ⟨_, rfl, (fZ h.pt.bits)⟩
 ·obtain rfl : FK.int 2 = k := ag hk
  exact ⟨_, rfl, (fZ h.pt.count)⟩
 ·obtain rfl : FK.int 2 = k := ag hk
  exact ⟨_, rfl, (fZ h.pt.sent)⟩
 ·obtain rfl : FK.byte = k := ag hk
  exact ⟨_, rfl, h.cp.page⟩
 ·obtain rfl : FK.int 2 = k := ag hk
  exact ⟨_, rfl, (fZ h.cp.left)⟩
omit hr in
def aQx {o : Nat} {k : FK} (h1 : 97 ≤ o) (h2 : o < 119) (hk : tyM o = some k) : Fit k (cMm A acc m) o := by
 obtain ⟨a, b, c, d, e⟩ := tV h.ln
 have o0 := h.bd.oV a (by rw [e]; simp); have o1 := h.bd.oV b (by rw [e]; simp); have o2 := h.bd.oV c (by rw [e]; simp); have o3 := h.bd.oV d (by rw [e]; simp)
 have hE : oO m.bd = [.bool m.bd.on, .int .i64 m.bd.div, .int .i64 m.bd.step] ++ ((cVc a ++ (cVc b ++ (cVc c ++ (cVc d ++ [])))) ++ [.int .i64 m.bd.pitch, .int .i64 m.bd.slide, .bool m.bd.slides]) := by unfold oO; rw [e]; rfl
 have g : ∀ j v, ([.bool m.bd.on, .int .i64 m.bd.div, .int .i64 m.bd.step] ++ ((cVc a ++ (cVc b ++ (cVc c ++ (cVc d ++ [])))) ++ [.int .i64 m.bd.pitch, .int .i64 m.bd.slide, .bool m.bd.slides]) : AA)[j]? = some v → (cMm A acc m)[97 + j]? = some v := fun j v hv => aLx h.ln (by rw [hE]; exact hv)
 rcases (show o = 97 ∨ o = 98 ∨ o = 99 ∨ o = 100 ∨ o = 101 ∨ o = 102 ∨ o = 103 ∨ o = 104 ∨ o = 105 ∨ o = 106 ∨ o = 107 ∨ o = 108 ∨ o = 109 ∨ o = 110 ∨ o = 111 ∨ o = 112 ∨ o = 113 ∨ o = 114 ∨ o = 115 ∨ o = 116 ∨ o = 117 ∨ o = 118 by omega) with rfl | rfl | rfl | rfl | rfl | rfl | rfl | rfl | rfl | rfl | rfl | rfl | rfl | rfl | rfl | rfl | rfl | rfl | rfl | rfl | rfl | rfl
 ·obtain rfl : FK.bool = k := ag hk
  exact gO (g 0 _ rfl)
 ·obtain rfl : FK.int 2 = k := ag hk
  exact ⟨_, g 1 _ rfl, (fZ h.bd.div)⟩
 ·obtain rfl : FK.int 2 = k := ag hk
  exact ⟨_, g 2 _ rfl, (fZ h.bd.step)⟩
 ·obtain rfl : FK.bool = k := ag hk
  exact gO (g 3 _ rfl)
 ·obtain rfl : FK.int 2 = k := ag hk
  exact ⟨_, g 4 _ rfl, (fZ o0.len)⟩
 ·obtain rfl : FK.int 2 = k := ag hk
  exact ⟨_, g 5 _ rfl, (fZ o0.lev)⟩
 ·obtain rfl : FK.int 2 = k := ag hk
  exact ⟨_, g 6 _ rfl, (fZ o0.wait)⟩
 ·obtain rfl : FK.bool = k := ag hk
  exact gO (g 7 _ rfl)
 ·obtain rfl : FK.int 2 = k := ag hk
  exact ⟨_, g 8 _ rfl, (fZ o1.len)⟩
 ·obtain rfl : FK.int 2 = k := ag hk
  exact ⟨_, g 9 _ rfl, (fZ o1.lev)⟩
 ·obtain rfl : FK.int 2 = k := ag hk
  exact ⟨_, g 10 _ rfl, (fZ o1.wait)⟩
 ·obtain rfl : FK.bool = k := ag hk
  exact gO (g 11 _ rfl)
 ·obtain rfl : FK.int 2 = k := ag hk
  exact ⟨_, g 12 _ rfl, (fZ o2.len)⟩
 ·obtain rfl : FK.int 2 = k := ag hk
  exact ⟨_, g 13 _ rfl, (fZ o2.lev)⟩
 ·obtain rfl : FK.int 2 = k := ag hk
  exact ⟨_, g 14 _ rfl, (fZ o2.wait)⟩
 ·obtain rfl : FK.bool = k := ag hk
  exact gO (g 15 _ rfl)
 ·obtain rfl : FK.int 2 = k := ag hk
  exact ⟨_, g 16 _ rfl, (fZ o3.len)⟩
 ·obtain rfl : FK.int 2 = k := ag hk
  exact ⟨_, g 17 _ rfl, (fZ o3.lev)⟩
 ·obtain rfl : FK.int 2 = k := ag hk
  exact ⟨_, g 18 _ rfl, (fZ o3.wait)⟩
 ·obtain rfl : FK.int 2 = k := ag hk
  exact ⟨_, g 19 _ rfl, (fZ h.bd.pitch)⟩
 ·obtain rfl : FK.int 2 = k := ag hk
  exact ⟨_, g 20 _ rfl, (fZ h.bd.slide)⟩
 ·obtain rfl : FK.bool = k := ag hk
  exact gO (g 21 _ rfl)
def aEt : sE tyM (cMm A acc m) := fun o k hk => by
 by_cases h1 : o < 49
 ·obtain ⟨x, hx, hok⟩ := aNk h hr h1 hk
  exact ⟨x, aNL hx, hok⟩
 by_cases h2 : o < 97
 ·obtain ⟨i, rfl⟩ : ∃ i, o = 49 + i := ⟨o - 49, y_y⟩
  have hk' : tyM (49 + i) = some .byte := xH _ (uS o_m)
  rw [hk'] at hk; cases hk
  refine ⟨m.bd.regs.getD i 0, ?_, h.bd.bR.get i⟩
  rw [uR, As_]
  exact bU (n := i) (by rw [fQ]) (eI (cX (by rw [h.bd.lR]; omega)))
 by_cases h3 : o < 119
 ·exact aQx h o_m h3 hk
 by_cases h4 : o < 135
 ·rcases (show o = 119 ∨ o = 120 ∨ o = 121 ∨ o = 122 ∨ 123 ≤ o by omega) with rfl | rfl | rfl | rfl | h5
  ·obtain rfl : FK.byte = k := ag hk
   exact ⟨_, get_mid h.ln (j := 0) rfl, h.flags⟩
  ·obtain rfl : FK.byte = k := ag hk
   exact ⟨_, get_mid h.ln (j := 1) rfl, h.lets⟩
  ·obtain rfl : FK.long 8 = k := ag hk
   exact ⟨_, get_mid h.ln (j := 2) rfl, h.steps⟩
  ·obtain rfl : FK.long 8 = k := ag hk
   exact ⟨_, get_mid h.ln (j := 3) rfl, h.cycles⟩
  ·have : tyM o = none := by unfold tyM; repeat (first | rw [if_neg o_m] | rw [if_pos o_m])
   rw [this] at hk; cases hk
 by_cases h5 : o < 8327
 ·obtain ⟨i, rfl⟩ : ∃ i, o = 135 + i := ⟨o - 135, y_y⟩
  rw [aBg _ (uS (show i < 8192 by omega))] at hk; cases hk
  exact ⟨_, aGC h.ln o_m, h.bWork.get i⟩
 by_cases h6 : o < 8454
 ·obtain ⟨i, rfl⟩ : ∃ i, o = 8327 + i := ⟨o - 8327, y_y⟩
  rw [aA9 _ (uS (show i < 127 by omega))] at hk; cases hk
  exact ⟨_, get_high h.ln o_m, h.bHigh.get i⟩
 ·have : tyM o = none := by unfold tyM; repeat (first | rw [if_neg o_m] | rw [if_pos o_m])
  rw [this] at hk; cases hk
end
section
variable {m : Mm} (h : m.Wf) (rs : AA)
include h
def aHZ : ∀ o ∈ bY 0 m.ram.length, Fit .byte (m.ram.map (.int .u8) ++ rs) o := fun o ho => by
 obtain ⟨i, hi, rfl⟩ := aCc ho
 rw [bi]
 exact ⟨_, eI (cX hi), h.bRam.get i⟩
def aH7 (bs : AB) : aI false .byte (bY 0 m.ram.length) (m.ram.map (.int .u8) ++ rs, bs) = (m.ram.map (.int .u8) ++ rs, bs ++ m.ram) := by
 rw [nT]
 exact cA_ (fun z => (_, bs ++ z)) (zX (X := []) rfl rfl h.bRam)
omit h in
def aKa {bs : AB} {p : Nat} (hb : p + m.ram.length ≤ bs.length) : aI true .byte (bY 0 m.ram.length) (m.ram.map (.int .u8) ++ rs, bs.drop p) = (((bs.drop p).take m.ram.length).map (.int .u8) ++ rs, bs.drop (p + m.ram.length)) := by
 rw [eE bs (q := p + m.ram.length) (by rw [tX]; show _ = p + m.ram.length * 1; omega)]
 exact cA_ (fun z => (z, _)) (vF (X := []) rfl hb rfl)
end
def eK (m : Mm) : AB := mJ m ++ (m.ram ++ eH m.u)
def aJh (m : Mm) (bs : AB) : Mm := { aAh m bs with ram := (bs.drop 8482).take m.ram.length }
def mO (m : Mm) (bs : AB) : Int :=
 if bs.length ≠ (eK m).length then 6 else if jW (bs.drop (8482 + m.ram.length)) = 0 ∧ eK { aJh m bs with u := tE (bs.drop (8482 + m.ram.length)) } = bs then 0 else 5
def oC (m : Mm) (bs : AB) : Mm := if mO m bs = 0 then { aJh m bs with u := tE (bs.drop (8482 + m.ram.length)), acc := [] } else m
section
variable {u : PU}
def aLi (u : PU) : (stepU u).V = u.V ∧ (stepU u).O = u.O ∧ (stepU u).R = u.R := by
 unfold stepU jY kO oneU
 repeat' split
 all_goals exact ⟨rfl, rfl, rfl⟩
def aAS (u : PU) : (tickU u).V = u.V ∧ (tickU u).O = u.O ∧ (tickU u).R = u.R := by
 unfold tickU
 split
 ·exact aLi u
 ·exact ⟨rfl, rfl, rfl⟩
end
structure PU.Ln (u : PU) : Prop where
 lV : u.V.length = 8192
 lO : u.O.length = 160
 lR : u.R.length = 12
 lP : u.P.length = 23040
def PU.Wf.ln {u : PU} (h : u.Wf) : u.Ln := ⟨h.lV, h.lO, h.lR, h.lP⟩
section
variable {u : PU}
def nU_len (h : u.Ln) : (cU u).length = 31409 := by simp [cU, h.lV, h.lO, h.lR, h.lP]
def aSH (h : u.Ln) {j : Nat} (hj : j < 12) : (cU u)[8352 + j]? = some (.int .u8 (u.R.getD j 0)) :=
 bU (n := 160 + j) y_bw (bU (n := j) y_cR (eI (cX y_cL)))
def aHr (h : u.Ln) {j : Nat} {v : AH} (hv : ([.int .i64 u.line, .int .i64 u.dot, .int .i64 u.own, .int .i64 u.frames, .bool u.sig] : AA)[j]? = some v) : (cU u)[8364 + j]? = some v :=
 bU (n := 172 + j) y_bw (bU (n := 12 + j) y_cn (bU (n := j) y_cC (eI hv)))
def aSN (h : u.Ln) {j : Nat} {r : AB} (hj : j + r.length ≤ 8192) : aO (cU u) j (r.map (.int .u8)) = cU { u with V := gK u.V j r } := by
 unfold cU
 rw [eA (by simp [h.lV]; omega), rL]
def aS8 (h : u.Ln) {j : Nat} {r : AB} (hj : j + r.length ≤ 160) : aO (cU u) (8192 + j) (r.map (.int .u8)) = cU { u with O := gK u.O j r } := by
 unfold cU
 rw [aZ (n := j) y_cQ y_dq, eA y_dq, rL]
def aFW (h : u.Ln) {j : Nat} {r : AB} (hj : j + r.length ≤ 12) : aO (cU u) (8352 + j) (r.map (.int .u8)) = cU { u with R := gK u.R j r } := by
 unfold cU
 rw [aZ (n := 160 + j) y_bw y_cO, aZ (n := j) y_cR y_cy, eA y_cy, rL]
def sI (h : u.Ln) {j : Nat} {v : AH} (hj : j < 5) : aO (cU u) (8364 + j) [v] = u.V.map (.int .u8) ++ (u.O.map (.int .u8) ++ (u.R.map (.int .u8) ++ (aO [.int .i64 u.line, .int .i64 u.dot, .int .i64 u.own, .int .i64 u.frames, .bool u.sig] j [v] ++ u.P.map (.int .u8)))) := by
 unfold cU
 rw [aZ (n := 172 + j) y_bw y_cO, aZ (n := 12 + j) y_cn y_cy, aZ (n := j) y_cC y_be, eA y_be]
def aSA (h : u.Ln) {j : Nat} {r : AB} (hj : j + r.length ≤ 23040) : aO (cU u) (8369 + j) (r.map (.int .u8)) = cU { u with P := gK u.P j r } := by
 unfold cU
 rw [aZ (n := 177 + j) y_bw (by simp [h.lO, h.lR, h.lP]; omega), aZ (n := 17 + j) y_cn (by simp [h.lR, h.lP]; omega), aZ (n := 5 + j) y_b6 y_dp, aZ (n := j) y_r y_dp, rL]
def aQ3 (u : PU) : eD (cU u) = true := by
 unfold cU
 simp only [eD, fj, aq]
 exact ⟨dZ _ _, dZ _ _, dZ _ _, rfl, dZ _ _⟩
end
section
variable {l : AB} (hl : l.length = 31408)
def z1 (l : AB) : PU := { fX with V := l.take 8192 }
def z2 (l : AB) : PU := { z1 l with O := (l.drop 8192).take 160 }
def z3 (l : AB) : PU := { z2 l with R := (l.drop 8352).take 6 ++ List.replicate 6 0 }
def rZ (l : AB) : AB := (l.drop 8352).take 6 ++ 0 :: (l.drop 8358).take 5
def z4 (l : AB) : PU := { z3 l with R := rZ l }
def z5 (l : AB) : PU := { z4 l with line := l.getD 8356 0, dot := l.getD 8363 0, own := l.getD 8364 0 }
def z6 (l : AB) : PU := { z5 l with frames := l.getD 8365 0 + 256 * l.getD 8366 0, sig := l.getD 8367 0 == 1 }
def z7 (l : AB) : PU := { z6 l with R := lM l }
def pZ (l : AB) (i : Nat) : AB := (l.drop 8368).take (i * 160) ++ List.replicate (23040 - i * 160) 0
def z8 (l : AB) (i : Nat) : PU := { z7 l with P := pZ l i }
def aIo : fX.Ln := zE.ln
include hl
def aA6 : (z1 l).Ln := ⟨by simp [z1, hl], bz, bz, bz⟩
def aCs : (z2 l).Ln := ⟨(aA6 hl).lV, by simp [z2, hl], (aA6 hl).lR, (aA6 hl).lP⟩
def aCG : (z3 l).Ln := ⟨(aCs hl).lV, (aCs hl).lO, by simp [z3, hl], (aCs hl).lP⟩
def aLU : (rZ l).length = 12 := by simp [rZ, hl]
def aMY : (lM l).length = 12 := by
 have := aLU hl; unfold rZ at this; simpa [lM] using this
def eO : (z4 l).Ln := ⟨(aCG hl).lV, (aCG hl).lO, aLU hl, (aCG hl).lP⟩
def aA2 : (z5 l).Ln := ⟨(eO hl).lV, (eO hl).lO, (eO hl).lR, (eO hl).lP⟩
def aIj : (z6 l).Ln := ⟨(eO hl).lV, (eO hl).lO, (eO hl).lR, (eO hl).lP⟩
def aBb : (z7 l).Ln := ⟨(eO hl).lV, (eO hl).lO, aMY hl, (eO hl).lP⟩
def aTp {i : Nat} (hi : i ≤ 144) : (pZ l i).length = 23040 := by simp [pZ, hl]; omega
def z8_ln {i : Nat} (hi : i ≤ 144) : (z8 l i).Ln := ⟨(aBb hl).lV, (aBb hl).lO, (aBb hl).lR, aTp hl hi⟩
def p_1 : aO (cU fX) 0 ((l.map (.int .u8)).take 8192) = cU (z1 l) := by
 rw [← ew, aSN aIo y_be, aFp (by rw [aIo.lV]; simp [hl])]; rfl
def p_2 : aO (cU (z1 l)) 8192 (((l.drop 8192).map (.int .u8)).take 160) = cU (z2 l) := by
 rw [← ew]
 have := aS8 (aA6 hl) (j := 0) (r := (l.drop 8192).take 160) y_cK
 rw [gb] at this
 rw [this, aFp (by rw [(aA6 hl).lO]; simp [hl])]; rfl
def p_3 : aO (cU (z2 l)) 8352 (((l.drop 8352).map (.int .u8)).take 6) = cU (z3 l) := by
 rw [← ew]
 have := aFW (aCs hl) (j := 0) (r := (l.drop 8352).take 6) y_be
 rw [gb] at this
 rw [this]
 have h2 : gK (z2 l).R 0 ((l.drop 8352).take 6) = (l.drop 8352).take 6 ++ List.replicate 6 0 := by
  unfold gK
  have h3 : (z2 l).R = List.replicate 12 0 := rfl
  rw [h3]
  simp [hl]
 rw [h2]; rfl
def p_4 : aO (cU (z3 l)) 8359 ((((l.drop 8358).take 5).map (.int .u8)).take 5) = cU (z4 l) := by
 rw [← ew, List.take_take]
 have := aFW (aCG hl) (j := 7) (r := (l.drop 8358).take 5) y_be
 rw [show 8352 + 7 = 8359 by rfl] at this
 rw [show min 5 5 = 5 by rfl, this]
 have h2 : gK (z3 l).R 7 ((l.drop 8358).take 5) = rZ l := by
  have h3 : (z3 l).R = (l.drop 8352).take 6 ++ [0] ++ List.replicate 5 0 := by rw [As_]; rfl
  have h5 : ((l.drop 8358).take 5).length = 5 := by simp [hl]
  rw [h3, aGK y_cK, h5]
  simp [rZ]
 rw [h2]; rfl
def aU4 : (cU (z4 l))[8352 + 4]? = some (.int .u8 (l.getD 8356 0)) := by
 rw [aSH (eO hl) y_b]
 have : (z4 l).R.getD 4 0 = l.getD 8356 0 := by
  show (rZ l).getD 4 0 = _
  unfold rZ
  have h4 : ((l.drop 8352).take 6).length = 6 := by simp [hl]
  rw [Gd_, cx y_dO, ← Gd_, sY _ y_b, nD]
 rw [this]
def aVa : (cU (z7 l))[8352 + 1]? = some (.int .u8 (l.getD 8353 0)) := by
 rw [aSH (aBb hl) y_b]
 have : (z7 l).R.getD 1 0 = l.getD 8353 0 := by
  show (lM l).getD 1 0 = _
  unfold lM
  have h4 : ((l.drop 8352).take 6).length = 6 := by simp [hl]
  rw [Gd_, fp y_b, cx y_dO, ← Gd_, sY _ y_b, nD]
 rw [this]
def aVc : aO (cU (z4 l)) 8364 [.int .i64 (l.getD 8356 0)] = cU { z4 l with line := l.getD 8356 0 } := sI (eO hl) (j := 0) y_b
def aU2 : aO (cU { z4 l with line := l.getD 8356 0 }) 8365 [.int .i64 (l.getD 8363 0)] = cU { z4 l with line := l.getD 8356 0, dot := l.getD 8363 0 } :=
 sI (u := { z4 l with line := l.getD 8356 0 }) ⟨(eO hl).lV, (eO hl).lO, (eO hl).lR, (eO hl).lP⟩ (j := 1) y_b
def aVb : aO (cU { z4 l with line := l.getD 8356 0, dot := l.getD 8363 0 }) 8366 [.int .i64 (l.getD 8364 0)] = cU (z5 l) :=
 sI (u := { z4 l with line := l.getD 8356 0, dot := l.getD 8363 0 }) ⟨(eO hl).lV, (eO hl).lO, (eO hl).lR, (eO hl).lP⟩ (j := 2) y_b
def aUX : aO (cU (z5 l)) 8367 [.int .i64 (l.getD 8365 0 + 256 * l.getD 8366 0)] = cU { z5 l with frames := l.getD 8365 0 + 256 * l.getD 8366 0 } := sI (aA2 hl) (j := 3) y_b
def aVf : aO (cU { z5 l with frames := l.getD 8365 0 + 256 * l.getD 8366 0 }) 8368 [.bool (l.getD 8367 0 == 1)] = cU (z6 l) :=
 sI (u := { z5 l with frames := l.getD 8365 0 + 256 * l.getD 8366 0 }) ⟨(eO hl).lV, (eO hl).lO, (eO hl).lR, (eO hl).lP⟩ (j := 4) y_b
def p_7 : aO (cU (z6 l)) 8356 [.int .u8 0] = cU (z7 l) := by
 have := aFW (aIj hl) (j := 4) (r := [0]) y_r
 rw [show 8352 + 4 = 8356 by rfl] at this
 rw [show ([.int .u8 0] : AA) = [0].map (.int .u8) by rfl, this, aF7 (by rw [(aIj hl).lR]; decide)]; rfl
def aQT : (cU (z7 l))[8364]? = some (.int .i64 (l.getD 8356 0)) := aHr (aBb hl) (j := 0) rfl
def aSz : (cU (z7 l))[8365]? = some (.int .i64 (l.getD 8363 0)) := aHr (aBb hl) (j := 1) rfl
omit hl in
def aU5 : cU (z7 l) = cU (z8 l 0) := by
 have : pZ l 0 = (z7 l).P := by
  unfold pZ
  rw [fw, gc, ci, ji]; rfl
 unfold z8; rw [this]
def p_8 {i : Nat} (hi : i < 144) : aO (cU (z8 l i)) (8369 + i * 160) (((l.drop (8368 + i * 160)).map (.int .u8)).take 160) = cU (z8 l (i + 1)) := by
 rw [← ew, aSA (z8_ln hl o_m) y_be]
 have : gK (pZ l i) (i * 160) ((l.drop (8368 + i * 160)).take 160) = pZ l (i + 1) := by
  unfold pZ
  have h2 : ((l.drop (8368 + i * 160)).take 160).length = 160 := by simp [hl]; omega
  rw [aGK (by simp [hl]; omega), h2, List.drop_replicate, show 23040 - i * 160 - 160 = 23040 - (i + 1) * 160 by omega, ← aAA, ax]
 show cU { z8 l i with P := gK (pZ l i) (i * 160) _ } = _
 rw [this]; rfl
def z8_all : z8 l 144 = tE l := by
 have : pZ l 144 = l.drop 8368 := by unfold pZ; rw [c8 y_cK]; simp
 unfold z8; rw [this]; rfl
def mG (h : okE l = false) : 5 = jW l := by unfold jW; rw [if_neg o_m, if_neg (by rw [h]; decide)]
def aCe (h : okE l = true) : 0 = jW l := by unfold jW; rw [if_neg o_m, if_pos h]
end
section
variable {l : AB}
def aGz (h : l.length ≠ 31408) : 6 = jW l := by unfold jW; rw [if_pos h]
def aTO (h : 154 ≤ l.getD 8356 0) : okE l = false := by unfold okE; rw [bw o_m]; rfl
def aSj (h : 114 ≤ l.getD 8363 0) : okE l = false := by unfold okE; rw [bw (p := l.getD 8363 0 < 114) o_m]; simp
def aTU (h : (hQ .u8 (l.getD 8353 0) 120 != 0) = true) : okE l = false := by unfold okE; rw [show (hQ .u8 (l.getD 8353 0) 120 == 0) = false by simpa using h]; simp
def aTP (h : 1 < l.getD 8367 0) : okE l = false := by unfold okE; rw [bw (p := l.getD 8367 0 ≤ 1) o_m]; simp
def aH3 (l : AB) : l.all (fun x => decide (x ≤ 3)) = !(l.any fun x => decide (3 < x)) := by
 induction l with
 | nil => rfl
 | cons x l ih =>
  rw [f2, List.any_cons, ih, Bool.not_or]
  congr 1
  by_cases h : x ≤ 3
  ·have h2 : ¬ 3 < x := by omega
   simp [h, h2]
  ·have h2 : 3 < x := by omega
   simp [h, h2]
def aTE (h : ((l.drop 8368).any fun x => decide (3 < x)) = true) : okE l = false := by unfold okE; rw [aH3, h]; simp
def aTJ (h1 : l.getD 8356 0 < 154) (h2 : l.getD 8363 0 < 114) (h3 : (hQ .u8 (l.getD 8353 0) 120 != 0) = false) (h4 : l.getD 8367 0 ≤ 1) (h5 : ((l.drop 8368).any fun x => decide (3 < x)) = false) : okE l = true := by
 unfold okE
 rw [aH3, h5, ah h1, ah h2, ah h4, show (hQ .u8 (l.getD 8353 0) 120 == 0) = true by simpa using h3]; rfl
def aDM {u : PU} (h : 0 = jW l) : gU u l = tE l := by unfold gU; rw [if_pos h.symm]
def rS {u : PU} {e : Int} (h : e = jW l) (h0 : e ≠ 0) : gU u l = u := by unfold gU; rw [if_neg o_m]
end
structure PU.Good (u : PU) : Prop where
 ok : u.Ok
 own : u.own ≤ u.line + (if 63 ≤ u.dot then 1 else 0)
 r4 : u.R.getD 4 0 = 0
 r6 : u.R.getD 6 0 = 0
 pic : ∀ x ∈ u.P, x ≤ 3
 off : gS u = false → u.line = 0 ∧ u.dot = 0
def aI6 : fX.Good := ⟨aFy, y_eP, rfl, rfl, fun x hx => by rw [(List.mem_replicate.1 hx).2]; decide, fun _ => ⟨rfl, rfl⟩⟩
section
variable {u : PU}
def PU.Good.own_lt (h : u.Good) : u.own < 256 := by
 have h1 := h.own; have h2 := h.ok.line
 split at h1 <;> omega
def aME (u : PU) : ∀ x ∈ rowU u, x ≤ 3 := fun x hx => by
 obtain ⟨k, _, rfl⟩ := List.mem_map.1 hx
 have := aCA u.V (u.r 0) (u.r 7) (u.r 8) (u.r 9) k u.line ((belowU u).getD k 0) ((fK (jN u.O (u.r 0) u.line)).find? (hit u.V (u.r 0) k u.line))
 unfold vX; omega
def aNB {l r : AB} {j : Nat} {x : Int} (h : x ∈ gK l j r) : x ∈ l ∨ x ∈ r := by
 unfold gK at h
 rcases List.mem_append.1 h with h | h
 ·rcases List.mem_append.1 h with h | h
  ·exact .inl (cu h)
  ·exact .inr h
 ·exact .inl (da h)
def PU.Good.ask (h : u.Good) : (askU u).Good := ⟨h.ok.ask, h.own, h.r4, h.r6, h.pic, h.off⟩
def PU.Good.tick (h : u.Good) : (tickU u).Good := by
 have hk := h.ok.tick
 by_cases hl : gS u = true
 ·have ht : tickU u = askU (stepU u) := by unfold tickU; rw [if_pos hl]
  refine ⟨hk, ?_, ?_, ?_, ?_, fun hf => ?_⟩
  ·rw [ht]
   show (stepU u).own ≤ (stepU u).line + (if 63 ≤ (stepU u).dot then 1 else 0)
   have ho := h.own; have hd := h.ok.dot; have hn := h.ok.line; have hd0 := h.ok.wf.dot; have hl0 := h.ok.wf.line
   by_cases h1 : u.dot = 62 ∧ u.line < 144
   ·rw [tN h1.1 h1.2]
    simp only [jY, oneU]
    split at ho <;> (try split) <;> (try split) <;> omega
   ·by_cases h2 : u.dot = 113
    ·rw [sS h2]
     unfold kO oneU
     dsimp only
     by_cases h3 : u.line = 143
     ·rw [if_pos h3]; dsimp only; split at ho <;> (try split) <;> omega
     ·rw [if_neg h3]
      by_cases h4 : u.line = 153
      ·rw [if_pos h4]; dsimp only; (try split) <;> omega
      ·rw [if_neg h4]; dsimp only; split at ho <;> (try split) <;> omega
    ·rw [uE h1 h2]
     simp only [oneU]
     split at ho <;> (try split) <;> omega
  ·rw [(aAS u).2.2]; exact h.r4
  ·rw [(aAS u).2.2]; exact h.r6
  ·rw [ht]
   show ∀ x ∈ (stepU u).P, x ≤ 3
   intro x hx
   unfold stepU jY kO oneU at hx
   split at hx
   ·rcases aNB hx with hx | hx
    ·exact h.pic x hx
    ·exact aME _ x hx
   ·repeat' split at hx
    all_goals exact h.pic x hx
  ·have : gS (tickU u) = gS u := by unfold gS PU.r; rw [(aAS u).2.2]
   rw [this, hl] at hf; cases hf
 ·have ht : tickU u = u := by unfold tickU; rw [if_neg hl]
  rw [ht]; exact h
def PU.Good.set (h : u.Good) {n x : Int} (hn : n = -1 ∨ (0 ≤ n ∧ n < 12 ∧ n ≠ 6)) (h0 : n ≠ -1) : (iH u n x).R.getD 4 0 = 0 ∧ (iH u n x).R.getD 6 0 = 0 := by
 have e : ∀ (j k : Nat) (y : Int), k ≠ j → (u.R.set j y).getD k 0 = u.R.getD k 0 := fun j k y hk => by
  rw [Gd_, fp (Ne.symm hk), ← Gd_]
 by_cases h1 : n = 1
 ·rw [set_1 h1]; exact ⟨(e 1 4 _ y_b).trans h.r4, (e 1 6 _ y_b).trans h.r6⟩
 ·by_cases h4 : n = 4
  ·rw [aCH h4]; exact ⟨h.r4, h.r6⟩
  ·rw [set_n h1 h4]; exact ⟨(e _ 4 _ o_m).trans h.r4, (e _ 6 _ o_m).trans h.r6⟩
def aOF (u : PU) (n x : Int) : (iH u n x).P = u.P ∧ (iH u n x).line = u.line ∧ (iH u n x).dot = u.dot ∧ (iH u n x).own = u.own := by
 unfold iH
 repeat' split
 all_goals exact ⟨rfl, rfl, rfl, rfl⟩
def PU.Good.write (h : u.Good) {a x : Int} (hx : 0 ≤ x ∧ x < 256) : (fO u a x).Good := by
 have hk := h.ok.write (a := a) hx
 unfold fO at hk ⊢
 split
 ·split
  ·rename_i h1 h2
   rw [if_pos h1, if_pos h2] at hk
   exact ⟨hk, h.own, h.r4, h.r6, h.pic, h.off⟩
  ·exact h
 ·rename_i h1
  rw [if_neg h1] at hk
  split
  ·rename_i h2
   rw [if_pos h2] at hk
   split
   ·rename_i h3
    rw [if_pos h3] at hk
    exact ⟨hk, h.own, h.r4, h.r6, h.pic, h.off⟩
   ·exact h
  ·rename_i h2
   rw [if_neg h2] at hk
   split
   ·exact h
   ·rename_i h3
    rw [if_neg h3] at hk
    obtain ⟨e1, e2, e3, e4⟩ := aOF u (numU a) x
    obtain ⟨g4, g6⟩ := h.set (x := x) (vQ a) h3
    have hpic : ∀ y ∈ (iH u (numU a) x).P, y ≤ 3 := by rw [e1]; exact h.pic
    by_cases hz : gS u = true ∧ gS (iH u (numU a) x) = false
    ·have hp : putU u (numU a) x = { iH u (numU a) x with line := 0, dot := 0, own := 0 } := aBc hz.1 hz.2
     rw [hp] at hk ⊢
     exact ⟨hk, by show (0 : Int) ≤ 0 + (if (63 : Int) ≤ 0 then 1 else 0); decide, g4, g6, hpic, fun _ => ⟨rfl, rfl⟩⟩
    ·have hp : putU u (numU a) x = iH u (numU a) x := by unfold putU yQ; rw [if_neg hz]
     rw [hp] at hk ⊢
     refine ⟨hk, ?_, g4, g6, hpic, fun hf => ?_⟩
     ·show (iH u (numU a) x).own ≤ (iH u (numU a) x).line + (if 63 ≤ (iH u (numU a) x).dot then 1 else 0)
      rw [e2, e3, e4]; exact h.own
     ·show (iH u (numU a) x).line = 0 ∧ (iH u (numU a) x).dot = 0
      rw [e2, e3]
      have hf' : gS (iH u (numU a) x) = false := hf
      refine h.off ?_
      cases hq : gS u
      ·rfl
      ·exact absurd ⟨hq, hf'⟩ hz
def PU.Good.sprite (h : u.Good) (n : Int) {x : Int} (hx : 0 ≤ x ∧ x < 256) : (kT u n x).Good := by
 have hk := h.ok.sprite n hx
 unfold kT at hk ⊢
 split
 ·rename_i h1
  rw [if_pos h1] at hk
  exact ⟨hk, h.own, h.r4, h.r6, h.pic, h.off⟩
 ·exact h
end
def aKn : ∀ (R : AB) (n : Int), R.length = 12 → R.getD 4 0 = 0 → R.getD 6 0 = 0 → (((R.set 4 n).take 6 ++ 0 :: ((R.set 4 n).drop 7)).set 4 0) = R
 | [_, _, _, _, a, _, b, _, _, _, _, _], _, _, h4, h6 => by
  have h4 : a = 0 := h4
  have h6 : b = 0 := h6
  subst h4 h6; rfl
def aL4 {x : Int} (hx : 0 ≤ x ∧ x < 256) : aH .u8 x 120 = x → hQ .u8 x 120 = 0 :=
 aX (p := fun x => aH .u8 x 120 = x → hQ .u8 x 120 = 0) y_z hx.1 hx.2
def vK {A B : AB} {j : Nat} (h : j < A.length) : (A ++ B).getD j 0 = A.getD j 0 := by
 rw [Gd_, cx h, ← Gd_]
section
variable {u : PU} (h : u.Wf)
include h
omit h in
def aIE : eH u = u.V ++ (u.O ++ ((r4 u).take 6 ++ ((r4 u).drop 7 ++ (mM u ++ u.P)))) := by simp [eH, qF, aA1, As_]
def aPo : (eH u).drop 8192 = u.O ++ ((r4 u).take 6 ++ ((r4 u).drop 7 ++ (mM u ++ u.P))) := by rw [aIE, dx h.lV]
def aE4 : (eH u).drop 8352 = (r4 u).take 6 ++ ((r4 u).drop 7 ++ (mM u ++ u.P)) := by rw [show 8352 = 8192 + 160 by rfl, ← ax, aPo h, dx h.lO]
def aPq : (eH u).drop 8358 = (r4 u).drop 7 ++ (mM u ++ u.P) := by rw [show 8358 = 8352 + 6 by rfl, ← ax, aE4 h, dx y_dK]
def aPy : (eH u).drop 8363 = mM u ++ u.P := by rw [show 8363 = 8358 + 5 by rfl, ← ax, aPq h, dx y_dK]
def aPn : (eH u).drop 8368 = u.P := by rw [show 8368 = 8363 + 5 by rfl, ← ax, aPy h, dx (l₁ := mM u) (show (mM u).length = 5 from rfl)]
def aGH : (eH u).getD 8356 0 = u.line := by
 rw [show 8356 = 8352 + 4 by rfl, ← nD, aE4 h, vK y_dK, sY _ y_b]
 unfold r4
 rw [Gd_, ic (by rw [h.lR]; decide)]; rfl
def aRF : (eH u).getD 8353 0 = u.R.getD 1 0 := by
 rw [show 8353 = 8352 + 1 by rfl, ← nD, aE4 h, vK y_dK, sY _ y_b]
 unfold r4
 rw [Gd_, fp y_b, ← Gd_]
def oZ {j : Nat} (hj : j < 5) : (eH u).getD (8363 + j) 0 = (mM u).getD j 0 := by rw [← nD, aPy h, vK (by simpa [mM] using hj)]
def enc_byts : aT (eH u) := by
 have hb : ∀ {A B : AB}, aT A → aT B → aT (A ++ B) := fun ha hb x hx => (List.mem_append.1 hx).elim (ha x) (hb x)
 have h4 : aT (r4 u) := fun x hx => by
  rcases ee hx with h1 | rfl
  ·exact h.bR x h1
  ·have := h.line; omega
 rw [aIE]
 refine hb h.bV (hb h.bO (hb (fun x hx => h4 x (cu hx)) (hb (fun x hx => h4 x (da hx)) (hb (fun x hx => ?_) h.bP))))
 have h1 := h.dot; have h2 := h.own; have h3 := h.frames
 simp only [mM, d6, dz, or_false] at hx
 rcases hx with rfl | rfl | rfl | rfl | rfl
 ·omega
 ·omega
 ·omega
 ·omega
 ·unfold eG; split <;> decide
end
section
variable {u : PU} (h : u.Good)
include h
def aP5 : tE (eH u) = u := by
 have hw := h.ok.wf
 unfold tE lM
 rw [show (eH u).take 8192 = u.V by rw [aIE, eh hw.lV], aPo hw, eh hw.lO, aE4 hw, eh (by simp [r4_len hw]), aPq hw, eh (by simp [r4_len hw]), aPn hw, aGH hw,
  show (eH u).getD 8363 0 = u.dot from oZ hw (j := 0) y_b, show (eH u).getD 8364 0 = u.own % 256 from oZ hw (j := 1) y_b, show (eH u).getD 8365 0 = u.frames % 256 from oZ hw (j := 2) y_b,
  show (eH u).getD 8366 0 = u.frames / 256 from oZ hw (j := 3) y_b, show (eH u).getD 8367 0 = eG u.sig from oZ hw (j := 4) y_b]
 have e1 : ((r4 u).take 6 ++ 0 :: (r4 u).drop 7).set 4 0 = u.R := aKn u.R u.line hw.lR h.r4 h.r6
 have h1 := h.own_lt; have h2 := hw.own; have h3 := hw.frames
 rw [e1, show u.own % 256 = u.own by omega, show u.frames % 256 + 256 * (u.frames / 256) = u.frames by omega]
 have e2 : (eG u.sig == 1) = u.sig := by unfold eG; cases u.sig <;> rfl
 rw [e2]
def aTF : okE (eH u) = true := by
 have hw := h.ok.wf
 refine aTJ (by rw [aGH hw]; exact h.ok.line) (by rw [show (eH u).getD 8363 0 = u.dot from oZ hw (j := 0) y_b]; exact h.ok.dot) ?_ ?_ ?_
 ·rw [aRF hw, aL4 (hw.look 1) hw.how]; rfl
 ·rw [show (eH u).getD 8367 0 = eG u.sig from oZ hw (j := 4) y_b]; unfold eG; split <;> decide
 ·rw [aPn hw, List.any_eq_false]
  intro x hx
  have := h.pic x hx
  simp; omega
def aMU : jW (eH u) = 0 := (aCe (yM h.ok.wf) (aTF h)).symm
end
def aOO {x : Int} (h1 : 0 ≤ x) (h2 : x < 256) : (hQ .u8 x 120 == 0) = true → aH .u8 x 120 = x :=
 aX (p := fun x => (hQ .u8 x 120 == 0) = true → aH .u8 x 120 = x) y_z h1 h2
def aHu {l : AB} (hl : l.length = 31408) (hb : aT l) (ho : okE l = true) : (tE l).Wf := by
 unfold okE at ho
 simp only [aq, decide_eq_true_eq] at ho
 obtain ⟨⟨⟨⟨h1, h2⟩, h3⟩, h4⟩, h5⟩ := ho
 have c0 := hb.get 8356; have c1 := hb.get 8363; have c2 := hb.get 8364; have c3 := hb.get 8365; have c4 := hb.get 8366; have c5 := hb.get 8353
 have hR : aT (lM l) := fun x hx => by
  unfold lM at hx
  rcases ee hx with h9 | rfl
  ·rcases List.mem_append.1 h9 with h8 | h8
   ·exact hb x (da (cu h8))
   ·rcases List.mem_cons.1 h8 with rfl | h7
    ·decide
    ·exact hb x (da (cu h7))
  ·decide
 have hA : ((l.drop 8352).take 6).length = 6 := by simp [hl]
 have e1 : (lM l).getD 1 0 = l.getD 8353 0 := by
  unfold lM
  rw [Gd_, fp y_b, ← Gd_, vK (by rw [hA]; decide), sY _ y_b, nD]
 refine ⟨?_, ?_, ?_, ?_, fun x hx => hb x (cu hx), fun x hx => hb x (da (cu hx)), hR, fun x hx => hb x (da hx), ?_, ?_, ?_, ?_, ?_⟩
 ·show (l.take 8192).length = _; simp [hl]
 ·show ((l.drop 8192).take 160).length = _; simp [hl]
 ·show (lM l).length = _; simp [lM, hl]
 ·show (l.drop 8368).length = _; simp [hl]
 ·show 0 ≤ l.getD 8356 0 ∧ l.getD 8356 0 ≤ 154; omega
 ·show 0 ≤ l.getD 8363 0 ∧ l.getD 8363 0 ≤ 114; omega
 ·show 0 ≤ l.getD 8364 0 ∧ l.getD 8364 0 ≤ 600; omega
 ·show 0 ≤ l.getD 8365 0 + 256 * l.getD 8366 0 ∧ l.getD 8365 0 + 256 * l.getD 8366 0 < 65536; omega
 ·show aH .u8 ((lM l).getD 1 0) 120 = (lM l).getD 1 0
  rw [e1]; exact aOO c5.1 c5.2 h3
def aBo : AA := cS ⟨r0, false, false, false, false⟩ ++ (cBk ⟨0, 0, 0, false, false, 0, 0, 0⟩ ++ (cCk ⟨0, 0, 0, 0, 0, false, false, 0, 0, 0, 0, 0⟩ ++ (cTm ⟨0, 0, 0, 0, false⟩ ++ (cPd ⟨0, 0⟩ ++ (cPt ⟨0, 0, 0, 0, 0, 0⟩ ++ (cCp ⟨0, 0⟩ ++ (cBd bdZ ++
 ([.int .u8 0, .int .u8 0, .int .u64 0, .int .u64 0, .slice none 0 0, .slice none 0 0] ++ (cHd ⟨[], 0, false, false, 0, 0, false⟩ ++ ([.pointer none, .pointer none, .slice none 0 0] ++ ((List.replicate 8192 (0 : Int)).map (.int .u8) ++ ((List.replicate 127 (0 : Int)).map (.int .u8) ++ [.slice none 0 0]))))))))))))
def aEC : aBo.length = 8455 := by
 unfold aBo
 simp only [La_, Lm_, bz, Lc_, au, cBd_len bdZ_wf.ln]
 rfl
section
variable {A : Ad} {acc : AH} {m : Mm}
def aN8 (h : eD [acc, A.plan, A.tab] = true) : eD (tG A m) = true := by
 unfold eD at h ⊢
 simp only [f2, jr, ig, aq] at h
 unfold tG
 simp only [fj, f2, jr, h.2.1, h.2.2, ig, gm]
 rfl
def aGX (h : eD [acc, A.plan, A.tab] = true) : eD (cMm A acc m) = true := by
 have h1 := ones_cBd m.bd
 have h2 := dZ .u8 m.work
 have h3 := dZ .u8 m.high
 have h4 := aN8 (m := m) h
 have h5 : eD (iB m) = true := rfl
 rw [mZ]
 unfold fD
 unfold eD at h h1 h2 h3 h4 h5 ⊢
 simp only [f2, jr, ig, aq] at h
 simp only [fj, h1, h2, h3, h4, h5, f2, jr, h.1, ig]
def aOY (h : MLn m) (b c : Nat) (s : AA) : aO (cMm A acc m) 134 [.slice (Q_ b) m.ram.length c] = cMm { A with rb := b, rc := c, rs := s } acc m := (tS h (o := 15) y_b).trans rfl
def aD1 (h : MLn m) (b : Nat) : aO (cMm A acc m) 133 [P_ b] = cMm { A with ub := b } acc m := (tS h (o := 14) y_b).trans rfl
end
def aTr {α : Type} : ∀ L : List α, (List.range L.length).filterMap (fun i => L[i]?) = L := fun L => by
 have key : ∀ n, n ≤ L.length → (List.range n).filterMap (fun i => L[i]?) = L.take n := fun n => by
  induction n with
  | zero => intro _; rfl
  | succ n ih => intro hn; rw [d7, List.filterMap_append, ih o_m, eu]; simp [ak (show n < L.length by omega)]
 rw [key _ (av _), db]
def St.perm_ix {w0 w : AI} {ms : AE} {L L' : aC} (n : Nat) (p : AE) (hp : p.Perm (List.range n)) (hn : L.length = n) (hl : L' = p.filterMap (fun i => L[i]?)) (hw : St w0 ms L w) : St w0 ms L' w := by
 subst hl hn
 refine hw.perm ?_
 have := (hp.filterMap (fun i => L[i]?)).symm
 rwa [aTr] at this
def aLG {l : AB} (h : jW l = 0) : l.length = 31408 ∧ okE l = true := by
 unfold jW at h
 split at h
 ·cases h
 ·rename_i h1
  split at h
  ·rename_i h2; exact ⟨Decidable.byContradiction h1, h2⟩
  ·cases h
def aQd {l : AB} (hb : aT l) (h : jW l = 0) : (tE l).Ok := by
 obtain ⟨hl, ho⟩ := aLG h
 have hw := aHu hl hb ho
 unfold okE at ho
 simp only [aq, decide_eq_true_eq] at ho
 have h1 := hb.get 8356; have h3 := hb.get 8364
 exact ⟨hw, ho.1.1.1.1, ho.1.1.1.2, by show l.getD 8364 0 ≤ 255 + l.getD 8356 0 + _; split <;> omega⟩
def aMQ {u : PU} (hu : u.Wf) {l : AB} (hb : aT l) : (gU u l).Wf := by
 unfold gU
 split
 ·rename_i h; obtain ⟨hl, ho⟩ := aLG h; exact aHu hl hb ho
 ·exact hu
section
variable {m : Mm} (h : m.Wf)
include h
def lJ : (eK m).length = 39890 + m.ram.length := by
 unfold eK
 rw [La_, La_, aBM h, yM h.u.wf]; omega
def aLb : aT (eK m) := gE (aLr h) (gE h.bRam (enc_byts h.u.wf))
def dL (m : Mm) (l : AB) : Mm := { aJh m l with u := tE (l.drop (8482 + m.ram.length)) }
variable {l : AB} (hb : aT l) (hl : l.length = (eK m).length)
include hl
def wF : ((l.drop 8482).take m.ram.length).length = m.ram.length := by
 rw [Lt_, Ld_, hl, lJ h]; omega
def aNZ {A : Ad} {acc : AH} : cMm A acc (aAh m l) = cMm A acc (dL m l) := by
 have e := wF h hl
 unfold cMm fD tG
 rw [show (dL m l).ram.length = m.ram.length from e]
 rfl
include hb
def aOl (hd : jW (l.drop (8482 + m.ram.length)) = 0) : (dL m l).Wf := by
 have e := wF h hl
 have w := aH9 h hb (by rw [hl, lJ h]; omega)
 exact ⟨w.bk, w.ck, w.tm, w.pd, w.pt, w.cp, w.bd, w.flags, w.lets, w.steps, w.cycles, aQd (iS hb _) hd, w.banks, w.lRom, w.bRom, by show (((l.drop 8482).take m.ram.length).length : Int) = _; rw [e]; exact h.lRam, pK (iS hb _) _, w.lWork, w.bWork, w.lHigh, w.bHigh⟩
omit h hl in
def aIh : (dL m l).cpu.r.Ok := aLy (m := m) hb
end
def aIA {m : Mm} {l : AB} (h : l.length ≠ (eK m).length) : 6 = mO m l := (if_pos h).symm
def aIR {m : Mm} {l : AB} (h : l.length = (eK m).length) (hd : jW (l.drop (8482 + m.ram.length)) ≠ 0) : 5 = mO m l := by
 unfold mO; rw [if_neg o_m, if_neg (fun h => hd h.1)]
def aG9 {m : Mm} {l : AB} (h : l.length = (eK m).length) (hd : eK (dL m l) ≠ l) : 5 = mO m l := by
 unfold mO; rw [if_neg o_m, if_neg (fun h => hd h.2)]
def aCK {m : Mm} {l : AB} (h : l.length = (eK m).length) (hd : jW (l.drop (8482 + m.ram.length)) = 0) (he : eK (dL m l) = l) : 0 = mO m l := by
 unfold mO; rw [if_neg o_m, if_pos ⟨hd, he⟩]
def aBW {m : Mm} {l : AB} {e : Int} (h : e = mO m l) (h0 : e ≠ 0) : oC m l = m := by unfold oC; rw [if_neg o_m]
def aEP {m : Mm} {l : AB} (h : 0 = mO m l) : oC m l = { dL m l with acc := [] } := by unfold oC; rw [if_pos h.symm]; rfl
structure Ad.Kept (A A' : Ad) : Prop where
 mb : A'.mb = A.mb
 ub : A'.ub = A.ub
 ob : A'.ob = A.ob
 oc : A'.oc = A.oc
 sp : A'.sp = A.sp
 plan : A'.plan = A.plan
 tab : A'.tab = A.tab
def aFe {w : AI} {b off : Nat} {L l : AA} (h : Row w b 0 L) (hl : ∀ (j : Nat) (v : AH), l[j]? = some v → L[off + j]? = some v) : Row w b off l := fun j v hv => by
 have := h (off + j) v (hl j v hv)
 rwa [bi] at this
def chkH (rom : AB) : Nat → Int
 | 0 => 0
 | i + 1 => (chkH rom i - (rom.getD (308 + i) 0 + 1)) % 256
def aAN (rom : AB) : Nat → Int
 | 0 => 0
 | i + 1 => (aAN rom i + rom.getD i 0) % 65536
def aJS (rom : AB) : Int := (aAN rom rom.length - rom.getD 334 0 - rom.getD 335 0) % 65536
def aBl (rom : AB) (i : Nat) : 0 ≤ chkH rom i ∧ chkH rom i < 256 := by cases i with
 | zero => exact ⟨gp 0, (by decide : (0 : Int) < 256)⟩
 | succ i => unfold chkH; omega
def aHx (rom : AB) (i : Nat) : 0 ≤ aAN rom i ∧ aAN rom i < 65536 := by cases i with
 | zero => exact ⟨gp 0, (by decide : (0 : Int) < 65536)⟩
 | succ i => unfold aAN; omega
abbrev Srt := Int × Bool × Bool
def gT : List (Int × Srt) := [(0, 0, false, false), (8, 0, false, false), (9, 0, false, true), (1, 1, false, false), (2, 1, false, false), (3, 1, false, true), (5, 2, false, false), (6, 2, false, true), (15, 3, true, true), (16, 3, true, true), (17, 3, false, false), (18, 3, false, false), (19, 3, false, true),
 (25, 5, false, false), (26, 5, false, false), (27, 5, false, true), (28, 5, false, false), (29, 5, false, false), (30, 5, false, true)]
def cSrt (s : Srt) : AA := [.int .i64 s.1, .bool s.2.1, .bool s.2.2]
def gY : List (Int × Srt) → Nat → List Ent
 | [], _ => []
 | s :: l, i => (s.1, .agg (cSrt s.2).toArray, i) :: gY l (i + 1)
def sortE : List Ent := gY gT 0
def aBa (b : Int) : List (Int × Srt) → Option Srt
 | [] => none
 | s :: l => if b = s.1 then some s.2 else aBa b l
def sortH (b : Int) : Option Srt := aBa b gT
def aPA (o : Option Srt) : Array AH := #[.agg (cSrt (o.getD (0, false, false))).toArray, .bool o.isSome]
def aDY (b : Int) : ∀ (l : List (Int × Srt)) (i j : Nat), aFr (.agg (cSrt (0, false, false)).toArray) (eV b (gY l i) j) = aPA (aBa b l)
 | [], _, _ => rfl
 | s :: l, i, j => by
  unfold gY eV aBa
  by_cases h : b = s.1
  ·rw [if_pos h, if_pos h]; rfl
  ·rw [if_neg h, if_neg h]; exact aDY b l (i + 1) (j + 1)
def sort_ask (b : Int) : aFr (.agg (cSrt (0, false, false)).toArray) (eV b sortE 0) = aPA (sortH b) := aDY b gT 0 0
def sizesH : AB := [0, 2048, 8192, 32768, 131072, 65536]
def aEQ {b : Int} {s : Srt} : ∀ {l : List (Int × Srt)}, aBa b l = some s → (b, s) ∈ l
 | [], h => by cases h
 | x :: l, h => by
  unfold aBa at h
  split at h
  ·rename_i h1; cases h; rw [h1]; exact .head _
  ·exact .tail _ (aEQ h)
def aJv {b : Int} {s : Srt} (h : sortH b = some s) : 0 ≤ s.1 ∧ s.1 < 256 := by
 have key : ∀ x ∈ gT, 0 ≤ x.2.1 ∧ x.2.1 < 256 := by decide
 exact key _ (aEQ h)
def chrH (c : Int) : UInt8 := if c < 32 ∨ 126 < c then 63 else c.toNat.toUInt8
def nameH : AB → List UInt8
 | [] => []
 | c :: l => if c = 0 then [] else chrH c :: nameH l
def zP (kind n : Int) : Int := if kind = 2 then 512 else if n = 0 then 0 else if n = 1 then 2048 else if n = 2 then 8192 else if n = 3 then 32768 else if n = 4 then 131072 else 65536
def errH (rom : AB) : Int :=
 if rom.length < 336 then 2 else if rom.getD 333 0 ≠ chkH rom 25 then 4 else match sortH (rom.getD 327 0) with
  | none => 5
  | some _ => if 8 < rom.getD 328 0 ∨ 6 ≤ rom.getD 329 0 then 7 else if (rom.length : Int) ≠ 32768 * 2 ^ (rom.getD 328 0).toNat then 6 else 0
def hdH (rom : AB) : Hd :=
 let s := (sortH (rom.getD 327 0)).getD (0, false, false)
 ⟨nameH ((rom.drop 308).take 15), s.1, s.2.1, s.2.2, 2 * 2 ^ (rom.getD 328 0).toNat, zP s.1 (rom.getD 329 0), rom.getD 334 0 * 256 + rom.getD 335 0 == aJS rom⟩
def zHd : Hd := ⟨[], 0, false, false, 0, 0, false⟩
def aGx {c n : Int} (hc : c = 2 ∨ c = 32768) (hn : 0 ≤ n ∧ n ≤ 8) : shl .i64 c n = c * 2 ^ n.toNat := by
 rcases (show n = 0 ∨ n = 1 ∨ n = 2 ∨ n = 3 ∨ n = 4 ∨ n = 5 ∨ n = 6 ∨ n = 7 ∨ n = 8 by omega) with rfl | rfl | rfl | rfl | rfl | rfl | rfl | rfl | rfl <;> rcases hc with rfl | rfl <;> decide
def aJb {l : AB} : ∀ {i : Nat}, (∀ j, j < i → l.getD j 0 ≠ 0) → i < l.length → l.getD i 0 = 0 → nameH l = (l.take i).map chrH := by
 induction l with
 | nil => intro i _ hi _; simp at hi
 | cons c l ih =>
  intro i hj hi h0
  cases i with
  | zero => have : c = 0 := h0; unfold nameH; rw [if_pos this]; rfl
  | succ i =>
   have h1 : c ≠ 0 := hj 0 o_m
   unfold nameH
   rw [if_neg h1, ih (i := i) (fun j hj' => hj (j + 1) o_m) (by simpa using hi) h0]
   rfl
def aLq {l : AB} (h : ∀ j, j < l.length → l.getD j 0 ≠ 0) : nameH l = l.map chrH := by
 induction l with
 | nil => rfl
 | cons c l ih =>
  have h1 : c ≠ 0 := h 0 y_r
  unfold nameH
  rw [if_neg h1, ih fun j hj => h (j + 1) (by simpa using hj)]; rfl
def aNv {c : Int} (h : 0 ≤ c ∧ c < 256) (hp : ¬ (c < 32 ∨ 126 < c)) : ((chrH c).toNat : Int) = c := by
 unfold chrH
 rw [if_neg hp]
 have : c.toNat < 256 := by omega
 rw [show (c.toNat.toUInt8).toNat = c.toNat from by simp [Nat.toUInt8, UInt8.toNat_ofNat]; omega]
 omega
def txV (l : List UInt8) : AA := l.map fun c => .int .u8 c.toNat
def aLB {k n : Int} (hk : k ≠ 2) (hn : 0 ≤ n ∧ n < 6) : sizesH.getD n.toNat 0 = zP k n := by
 unfold zP
 rw [if_neg hk]
 rcases (show n = 0 ∨ n = 1 ∨ n = 2 ∨ n = 3 ∨ n = 4 ∨ n = 5 by omega) with rfl | rfl | rfl | rfl | rfl | rfl <;> rfl
def aQK (kind n : Int) : 0 ≤ zP kind n ∧ zP kind n ≤ 131072 := by unfold zP; constructor <;> (repeat' split) <;> decide
structure Pl where
 at_ : Int
 by_ : Int
 many : Int
 kind : Int
 size : Int
 x : AH
def cPl (p : Pl) : AA := [.int .i64 p.at_, .int .i64 p.by_, .int .i64 p.many, .int .i64 p.kind, .int .i64 p.size, p.x]
def aHT (p : Pl) : (cPl p).length = 6 := rfl
def aSu (G : aC) (p : Pl) (q : Pq) : Prop := p.at_ = q.at_ ∧ p.by_ = q.by_ ∧ p.many = q.many ∧ p.kind = q.kind ∧ p.size = q.size ∧ match q.x with
 | none => p.x = .slice none 0 0
 | some xs => ∃ b, p.x = .slice (Q_ b) xs.length xs.length ∧ VV.RowsIn G b 0 (xs.map (Value.int .i64))
def aBk (G : aC) : List Pl → List Pq → Prop
 | [], [] => True
 | p :: ps, q :: qs => aSu G p q ∧ aBk G ps qs
 | _, _ => False
def aBk.get {G : aC} : ∀ {ps : List Pl} {qs : List Pq} {k : Nat} {q : Pq}, aBk G ps qs → qs[k]? = some q → ∃ p, ps[k]? = some p ∧ aSu G p q
 | [], [], _, _, _, h => by simp at h
 | p :: ps, q :: qs, 0, _, h, h1 => by
  simp only [d9, Option.some.injEq] at h1
  subst h1
  exact ⟨p, rfl, h.1⟩
 | p :: ps, q :: qs, k + 1, _, h, h1 => by
  rw [du] at h1
  rw [du]
  exact aBk.get h.2 h1
 | _ :: _, [], _, _, h, _ => h.elim
 | [], _ :: _, _, _, h, _ => h.elim
def lD {G : aC} {b : Nat} {xs : AA} {T : AJ} (h : (b, blk xs T) ∈ G) : VV.RowsIn G b 0 xs := fun w hw => Row.all (w := w) (b := b) (hw _ h)
def plL (b4 b5 b6 b10 b48 b59 b65 : Nat) : List Pl := [⟨0, 1, 1, 1, 1, .slice none 0 0⟩, ⟨8, 1, 1, 40, 3, .slice none 0 0⟩, ⟨16, 1, 1, 2, 2, .slice none 0 0⟩, ⟨24, 1, 1, 23, 2, .slice (Q_ b10) 1 1⟩, ⟨32, 8, 4, 23, 2, .slice (Q_ b5) 4 4⟩, ⟨1, 16, 4, 9, 3, .slice (Q_ b5) 4 4⟩, ⟨9, 16, 4, 16, 1, .slice (Q_ b5) 4 4⟩, ⟨2, 16, 4, 33, 1, .slice (Q_ b5) 4 4⟩, ⟨10, 16, 4, 32, 1, .slice (Q_ b5) 4 4⟩, ⟨3, 16, 4, 14, 1, .slice (Q_ b5) 4 4⟩, ⟨11, 16, 4, 15, 1, .slice (Q_ b5) 4 4⟩, ⟨4, 8, 8, 12, 1, .slice (Q_ b4) 8 8⟩, ⟨5, 8, 8, 13, 1, .slice (Q_ b4) 8 8⟩, ⟨6, 8, 8, 8, 2, .slice (Q_ b4) 8 8⟩, ⟨7, 8, 4, 18, 1, .slice (Q_ b5) 4 4⟩, ⟨39, 1, 1, 19, 1, .slice none 0 0⟩, ⟨47, 1, 1, 20, 1, .slice none 0 0⟩, ⟨55, 1, 1, 21, 1, .slice none 0 0⟩, ⟨63, 1, 1, 22, 1, .slice none 0 0⟩, ⟨192, 8, 4, 26, 1, .slice (Q_ b5) 4 4⟩, ⟨224, 1, 1, 35, 2, .slice none 0 0⟩, ⟨232, 1, 1, 41, 2, .slice none 0 0⟩, ⟨240, 1, 1, 34, 2, .slice none 0 0⟩, ⟨248, 1, 1, 42, 2, .slice none 0 0⟩, ⟨193, 16, 4, 31, 1, .slice (Q_ b6) 4 4⟩, ⟨197, 16, 4, 30, 1, .slice (Q_ b6) 4 4⟩, ⟨201, 1, 1, 26, 1, .slice (Q_ b48) 1 1⟩, ⟨217, 1, 1, 27, 1, .slice none 0 0⟩, ⟨233, 1, 1, 29, 1, .slice none 0 0⟩, ⟨249, 1, 1, 43, 1, .slice none 0 0⟩, ⟨194, 8, 4, 24, 3, .slice (Q_ b5) 4 4⟩, ⟨226, 1, 1, 37, 1, .slice none 0 0⟩, ⟨234, 1, 1, 39, 3, .slice none 0 0⟩, ⟨242, 1, 1, 36, 1, .slice none 0 0⟩, ⟨250, 1, 1, 38, 3, .slice none 0 0⟩, ⟨195, 1, 1, 24, 3, .slice (Q_ b59) 1 1⟩, ⟨243, 1, 1, 5, 1, .slice none 0 0⟩, ⟨251, 1, 1, 6, 1, .slice none 0 0⟩, ⟨196, 8, 4, 25, 3, .slice (Q_ b5) 4 4⟩, ⟨205, 1, 1, 25, 3, .slice (Q_ b65) 1 1⟩, ⟨198, 8, 8, 11, 2, .slice (Q_ b4) 8 8⟩]
def aSE {G : aC} {b4 b5 b6 b10 b48 b59 b65 : Nat} (r4 : VV.RowsIn G b4 0 (([0, 1, 2, 3, 4, 5, 6, 7] : AB).map (Value.int .i64))) (r5 : VV.RowsIn G b5 0 (([0, 1, 2, 3] : AB).map (Value.int .i64)))
  (r6 : VV.RowsIn G b6 0 (([0, 1, 2, 4] : AB).map (Value.int .i64))) (r10 : VV.RowsIn G b10 0 (([4] : AB).map (Value.int .i64))) (r48 : VV.RowsIn G b48 0 (([4] : AB).map (Value.int .i64)))
  (r59 : VV.RowsIn G b59 0 (([4] : AB).map (Value.int .i64))) (r65 : VV.RowsIn G b65 0 (([4] : AB).map (Value.int .i64))) : aBk G (plL b4 b5 b6 b10 b48 b59 b65) PL :=
 ⟨⟨rfl, rfl, rfl, rfl, rfl, rfl⟩, ⟨rfl, rfl, rfl, rfl, rfl, rfl⟩, ⟨rfl, rfl, rfl, rfl, rfl, rfl⟩, ⟨rfl, rfl, rfl, rfl, rfl, b10, rfl, r10⟩, ⟨rfl, rfl, rfl, rfl, rfl, b5, rfl, r5⟩, ⟨rfl, rfl, rfl, rfl, rfl, b5, rfl, r5⟩, ⟨rfl, rfl, rfl, rfl, rfl, b5, rfl, r5⟩, ⟨rfl, rfl, rfl, rfl, rfl, b5, rfl, r5⟩, ⟨rfl, rfl, rfl, rfl, rfl, b5, rfl, r5⟩, ⟨rfl, rfl, rfl, rfl, rfl, b5, rfl, r5⟩, ⟨rfl, rfl, rfl, rfl, rfl, b5, rfl, r5⟩, ⟨rfl, rfl, rfl, rfl, rfl, b4, rfl, r4⟩, ⟨rfl, rfl, rfl, rfl, rfl, b4, rfl, r4⟩, ⟨rfl, rfl, rfl, rfl, rfl, b4, rfl, r4⟩, ⟨rfl, rfl, rfl, rfl, rfl, b5, rfl, r5⟩, ⟨rfl, rfl, rfl, rfl, rfl, rfl⟩, ⟨rfl, rfl, rfl, rfl, rfl, rfl⟩, ⟨rfl, rfl, rfl, rfl, rfl, rfl⟩, ⟨rfl, rfl, rfl, rfl, rfl, rfl⟩, ⟨rfl, rfl, rfl, rfl, rfl, b5, rfl, r5⟩, ⟨rfl, rfl, rfl, rfl, rfl, rfl⟩, ⟨rfl, rfl, rfl, rfl, rfl, rfl⟩, ⟨rfl, rfl, rfl, rfl, rfl, rfl⟩, ⟨rfl, rfl, rfl, rfl, rfl, rfl⟩, ⟨rfl, rfl, rfl, rfl, rfl, b6, rfl, r6⟩, ⟨rfl, rfl, rfl, rfl, rfl, b6, rfl, r6⟩, ⟨rfl, rfl, rfl, rfl, rfl, b48, rfl, r48⟩, ⟨rfl, rfl, rfl, rfl, rfl, rfl⟩, ⟨rfl, rfl, rfl, rfl, rfl, rfl⟩, ⟨rfl, rfl, rfl, rfl, rfl, rfl⟩, ⟨rfl, rfl, rfl, rfl, rfl, b5, rfl, r5⟩, ⟨rfl, rfl, rfl, rfl, rfl, rfl⟩, ⟨rfl, rfl, rfl, rfl, rfl, rfl⟩, ⟨rfl, rfl, rfl, rfl, rfl, rfl⟩, ⟨rfl, rfl, rfl, rfl, rfl, rfl⟩, ⟨rfl, rfl, rfl, rfl, rfl, b59, rfl, r59⟩, ⟨rfl, rfl, rfl, rfl, rfl, rfl⟩, ⟨rfl, rfl, rfl, rfl, rfl, rfl⟩, ⟨rfl, rfl, rfl, rfl, rfl, b5, rfl, r5⟩, ⟨rfl, rfl, rfl, rfl, rfl, b65, rfl, r65⟩, ⟨rfl, rfl, rfl, rfl, rfl, b4, rfl, r4⟩, trivial⟩
def aQN (b4 b5 b6 b10 b48 b59 b65 : Nat) : (plL b4 b5 b6 b10 b48 b59 b65).length = 41 := rfl
def aO7 {q : Pq} (h : q.x = none) (i : Nat) : qOp q i = ⟨q.kind, 0, 0, q.size, 0⟩ := by unfold qOp; rw [h]
def aNP {q : Pq} {x : AB} (h : q.x = some x) (i : Nat) : qOp q i = ⟨q.kind, x.getD i 0, 0, q.size, 0⟩ := by unfold qOp; rw [h]
def aTY (m : Nat) (h : m < 4) : ([.int .i64 17, .int .i64 44, .int .i64 45, .int .i64 46] : AA)[m]? = some (.int .i64 (([17, 44, 45, 46] : AB).getD m 0)) := by
 match m, h with
 | 0, _ => rfl
 | 1, _ => rfl
 | 2, _ => rfl
 | 3, _ => rfl
def aSx (m : Nat) (h : m < 4) : ([.int .i64 17, .int .i64 44, .int .i64 45, .int .i64 46] : AA)[0 + m * 1]? = some (.int .i64 (([17, 44, 45, 46] : AB).getD m 0)) := by
 rw [bi, ep]; exact aTY m h
def aDG {i k : Nat} (h : k ≤ 64) : shr .i64 (i : Int) (k : Int) = ((i / 2 ^ k : Nat) : Int) := by
 unfold shr
 have e1 : min (k : Int).toNat IntKind.i64.bits = k := by
  have : IntKind.i64.bits = 64 := rfl
  rw [this]; omega
 rw [e1, ec _ (jp (f8 y_b))]
 simp
def aSn {m : Nat} (h : m < 1000000) : aH .i64 (m : Int) 7 = ((m % 8 : Nat) : Int) := by
 unfold aH
 have h1 : (BitVec.ofInt IntKind.i64.bits (m : Int) &&& BitVec.ofInt IntKind.i64.bits 7).toNat = m % 8 := by
  have e1 : BitVec.ofInt IntKind.i64.bits (m : Int) = BitVec.ofNat 64 m := by simp [IntKind.bits]
  have e2 : BitVec.ofInt IntKind.i64.bits 7 = BitVec.ofNat 64 7 := rfl
  rw [e1, e2]
  have e3 : (BitVec.ofNat 64 m &&& BitVec.ofNat 64 7).toNat = (m % 18446744073709551616) &&& 7 := by simp
  have e4 : (m % 18446744073709551616) &&& 7 = m % 18446744073709551616 % 8 := er _ 3
  exact e3.trans (by rw [e4]; omega)
 rw [h1, aL o_m o_m]
set_option maxHeartbeats 4000000 in
def aMS (w : AI) :
  aB prog 155 [] w [] (fun v H => ∃ b L G, v = .slice (Q_ b) 41 41 ∧ H = (b, blk (aF cPl L) 307) :: G ∧ L.length = 41 ∧ aBk G L PL) := by
 refine dR_ func155 ?_
 refine A_6 ?_
 refine RX (dX (z := [.int .i64 0]) (l := [.int .i64 0, .int .i64 1, .int .i64 2, .int .i64 3, .int .i64 4, .int .i64 5, .int .i64 6, .int .i64 7]) (ps := [(0, .int .i64 0), (1, .int .i64 1), (2, .int .i64 2), (3, .int .i64 3), (4, .int .i64 4), (5, .int .i64 5), (6, .int .i64 6), (7, .int .i64 7)]) rfl rfl rfl rfl y_f y_f) rfl ?_
 rintro _ _ ⟨b4, rfl, rfl⟩
 refine A_4 ?_
 refine RX (dX (z := [.int .i64 0]) (l := [.int .i64 0, .int .i64 1, .int .i64 2, .int .i64 3]) (ps := [(0, .int .i64 0), (1, .int .i64 1), (2, .int .i64 2), (3, .int .i64 3)]) rfl rfl rfl rfl y_f y_f) rfl ?_
 rintro _ _ ⟨b5, rfl, rfl⟩
 refine RX (dX (z := [.int .i64 0]) (l := [.int .i64 0, .int .i64 1, .int .i64 2, .int .i64 4]) (ps := [(0, .int .i64 0), (1, .int .i64 1), (2, .int .i64 2), (3, .int .i64 4)]) rfl rfl rfl rfl y_f y_f) rfl ?_
 rintro _ _ ⟨b6, rfl, rfl⟩
 refine A_5 ?_
 refine RS ?_
 refine RS ?_
 refine RS ?_
 refine RX (dX rfl rfl rfl rfl rfl rfl) rfl ?_
 rintro _ _ ⟨b10, rfl, rfl⟩
 refine RS ?_
 refine A_1 ?_
 refine RS ?_
 refine A_1 ?_
 refine RS ?_
 refine A_1 ?_
 refine RS ?_
 refine A_1 ?_
 refine RS ?_
 refine A_1 ?_
 refine RS ?_
 refine A_1 ?_
 refine RS ?_
 refine A_1 ?_
 refine RS ?_
 refine A_1 ?_
 refine RS ?_
 refine A_1 ?_
 refine RS ?_
 refine A_1 ?_
 refine RS ?_
 refine A_1 ?_
 refine RS ?_
 refine RS ?_
 refine RS ?_
 refine RS ?_
 refine RS ?_
 refine A_1 ?_
 refine RS ?_
 refine RS ?_
 refine RS ?_
 refine RS ?_
 refine RS ?_
 refine A_1 ?_
 refine RS ?_
 refine A_1 ?_
 refine RS ?_
 refine RX (dX rfl rfl rfl rfl rfl rfl) rfl ?_
 rintro _ _ ⟨b48, rfl, rfl⟩
 refine RS ?_
 refine RS ?_
 refine RS ?_
 refine RS ?_
 refine A_1 ?_
 refine RS ?_
 refine RS ?_
 refine RS ?_
 refine RS ?_
 refine RS ?_
 refine RX (dX rfl rfl rfl rfl rfl rfl) rfl ?_
 rintro _ _ ⟨b59, rfl, rfl⟩
 refine RS ?_
 refine RS ?_
 refine RS ?_
 refine A_1 ?_
 refine RS ?_
 refine RX (dX rfl rfl rfl rfl rfl rfl) rfl ?_
 rintro _ _ ⟨b65, rfl, rfl⟩
 refine RS ?_
 refine A_1 ?_
 refine RS ?_
 refine RX (dX (z := cPl ⟨0, 0, 0, 0, 0, .slice none 0 0⟩) (l := aF cPl (plL b4 b5 b6 b10 b48 b59 b65)) (ps := [(0, .agg (cPl ((plL b4 b5 b6 b10 b48 b59 b65).getD 0 ⟨0, 0, 0, 0, 0, undef⟩)).toArray), (1, .agg (cPl ((plL b4 b5 b6 b10 b48 b59 b65).getD 1 ⟨0, 0, 0, 0, 0, undef⟩)).toArray), (2, .agg (cPl ((plL b4 b5 b6 b10 b48 b59 b65).getD 2 ⟨0, 0, 0, 0, 0, undef⟩)).toArray), (3, .agg (cPl ((plL b4 b5 b6 b10 b48 b59 b65).getD 3 ⟨0, 0, 0, 0, 0, undef⟩)).toArray), (4, .agg (cPl ((plL b4 b5 b6 b10 b48 b59 b65).getD 4 ⟨0, 0, 0, 0, 0, undef⟩)).toArray), (5, .agg (cPl ((plL b4 b5 b6 b10 b48 b59 b65).getD 5 ⟨0, 0, 0, 0, 0, undef⟩)).toArray), (6, .agg (cPl ((plL b4 b5 b6 b10 b48 b59 b65).getD 6 ⟨0, 0, 0, 0, 0, undef⟩)).toArray), (7, .agg (cPl ((plL b4 b5 b6 b10 b48 b59 b65).getD 7 ⟨0, 0, 0, 0, 0, undef⟩)).toArray), (8, .agg (cPl ((plL b4 b5 b6 b10 b48 b59 b65).getD 8 ⟨0, 0, 0, 0, 0, undef⟩)).toArray), (9, .agg (cPl ((plL b4 b5 b6 b10 b48 b59 b65).getD 9 ⟨0, 0, 0, 0, 0, undef⟩)).toArray), (10, .agg (cPl ((plL b4 b5 b6 b10 b48 b59 b65).getD 10 ⟨0, 0, 0, 0, 0, undef⟩)).toArray), (11, .agg (cPl ((plL b4 b5 b6 b10 b48 b59 b65).getD 11 ⟨0, 0, 0, 0, 0, undef⟩)).toArray), (12, .agg (cPl ((plL b4 b5 b6 b10 b48 b59 b65).getD 12 ⟨0, 0, 0, 0, 0, undef⟩)).toArray), (13, .agg (cPl ((plL b4 b5 b6 b10 b48 b59 b65).getD 13 ⟨0, 0, 0, 0, 0, undef⟩)).toArray), (14, .agg (cPl ((plL b4 b5 b6 b10 b48 b59 b65).getD 14 ⟨0, 0, 0, 0, 0, undef⟩)).toArray), (15, .agg (cPl ((plL b4 b5 b6 b10 b48 b59 b65).getD 15 ⟨0, 0, 0, 0, 0, undef⟩)).toArray), (16, .agg (cPl ((plL b4 b5 b6 b10 b48 b59 b65).getD 16 ⟨0, 0, 0, 0, 0, undef⟩)).toArray), (17, .agg (cPl ((plL b4 b5 b6 b10 b48 b59 b65).getD 17 ⟨0, 0, 0, 0, 0, undef⟩)).toArray), (18, .agg (cPl ((plL b4 b5 b6 b10 b48 b59 b65).getD 18 ⟨0, 0, 0, 0, 0, undef⟩)).toArray), (19, .agg (cPl ((plL b4 b5 b6 b10 b48 b59 b65).getD 19 ⟨0, 0, 0, 0, 0, undef⟩)).toArray), (20, .agg (cPl ((plL b4 b5 b6 b10 b48 b59 b65).getD 20 ⟨0, 0, 0, 0, 0, undef⟩)).toArray), (21, .agg (cPl ((plL b4 b5 b6 b10 b48 b59 b65).getD 21 ⟨0, 0, 0, 0, 0, undef⟩)).toArray), (22, .agg (cPl ((plL b4 b5 b6 b10 b48 b59 b65).getD 22 ⟨0, 0, 0, 0, 0, undef⟩)).toArray), (23, .agg (cPl ((plL b4 b5 b6 b10 b48 b59 b65).getD 23 ⟨0, 0, 0, 0, 0, undef⟩)).toArray), (24, .agg (cPl ((plL b4 b5 b6 b10 b48 b59 b65).getD 24 ⟨0, 0, 0, 0, 0, undef⟩)).toArray), (25, .agg (cPl ((plL b4 b5 b6 b10 b48 b59 b65).getD 25 ⟨0, 0, 0, 0, 0, undef⟩)).toArray), (26, .agg (cPl ((plL b4 b5 b6 b10 b48 b59 b65).getD 26 ⟨0, 0, 0, 0, 0, undef⟩)).toArray), (27, .agg (cPl ((plL b4 b5 b6 b10 b48 b59 b65).getD 27 ⟨0, 0, 0, 0, 0, undef⟩)).toArray), (28, .agg (cPl ((plL b4 b5 b6 b10 b48 b59 b65).getD 28 ⟨0, 0, 0, 0, 0, undef⟩)).toArray), (29, .agg (cPl ((plL b4 b5 b6 b10 b48 b59 b65).getD 29 ⟨0, 0, 0, 0, 0, undef⟩)).toArray), (30, .agg (cPl ((plL b4 b5 b6 b10 b48 b59 b65).getD 30 ⟨0, 0, 0, 0, 0, undef⟩)).toArray), (31, .agg (cPl ((plL b4 b5 b6 b10 b48 b59 b65).getD 31 ⟨0, 0, 0, 0, 0, undef⟩)).toArray), (32, .agg (cPl ((plL b4 b5 b6 b10 b48 b59 b65).getD 32 ⟨0, 0, 0, 0, 0, undef⟩)).toArray), (33, .agg (cPl ((plL b4 b5 b6 b10 b48 b59 b65).getD 33 ⟨0, 0, 0, 0, 0, undef⟩)).toArray), (34, .agg (cPl ((plL b4 b5 b6 b10 b48 b59 b65).getD 34 ⟨0, 0, 0, 0, 0, undef⟩)).toArray), (35, .agg (cPl ((plL b4 b5 b6 b10 b48 b59 b65).getD 35 ⟨0, 0, 0, 0, 0, undef⟩)).toArray), (36, .agg (cPl ((plL b4 b5 b6 b10 b48 b59 b65).getD 36 ⟨0, 0, 0, 0, 0, undef⟩)).toArray), (37, .agg (cPl ((plL b4 b5 b6 b10 b48 b59 b65).getD 37 ⟨0, 0, 0, 0, 0, undef⟩)).toArray), (38, .agg (cPl ((plL b4 b5 b6 b10 b48 b59 b65).getD 38 ⟨0, 0, 0, 0, 0, undef⟩)).toArray), (39, .agg (cPl ((plL b4 b5 b6 b10 b48 b59 b65).getD 39 ⟨0, 0, 0, 0, 0, undef⟩)).toArray), (40, .agg (cPl ((plL b4 b5 b6 b10 b48 b59 b65).getD 40 ⟨0, 0, 0, 0, 0, undef⟩)).toArray)]) rfl y_cs rfl rfl y_f y_f) rfl ?_
 rintro _ _ ⟨b69, rfl, rfl⟩
 refine A_3 ?_
 exact EV rfl sR_ ⟨_, _, _, rfl, rfl, aQN .., aSE (lD m_m) (lD m_m) (lD m_m) (lD m_m) (lD m_m) (lD m_m) (lD m_m)⟩
def aRl {i : Nat} (h : i / 64 = 1) : p1 i = ⟨7, ((i / 8 % 8 : Nat) : Int), ((i % 8 : Nat) : Int), 1, 0⟩ := by unfold p1; rw [if_pos h]
def aTL {i : Nat} (h : i / 64 = 2) : p1 i = ⟨10, ((i / 8 % 8 : Nat) : Int), ((i % 8 : Nat) : Int), 1, 0⟩ := by unfold p1; rw [if_neg o_m, if_pos h]
def aTH {i : Nat} (h : ¬ i / 64 = 1) (h2 : ¬ i / 64 = 2) : p1 i = ⟨4, 0, 0, 1, 0⟩ := by unfold p1; rw [if_neg h, if_neg h2]
def aQV (b : Nat) (u1 u2 u3 : AH) (P B : List Opr) (hP0 : P.length = 256) (hB0 : B.length = 256) (w : AI) (hb : w.heap[b]? = some (blk (iI u1 u2 u3 P B) 208)) :
  aB prog 113 [P_ b] w [b] (fun v H => v = .tuple #[] ∧ H = [(b, blk (iI u1 u2 u3 rJ tabB) 208)]) := by
 refine mC func113 rfl rfl rfl (St.lent1 hb) ?_
 refine A_6 ?_
 refine bD (σ := Nat × List Opr × List Opr) [2, 3, 4, 10, 11, 12, 13, 14, 15, 16, 17, 18, 19, 20, 21, 22, 23, 24, 25, 26, 27, 28, 29, 30, 31, 32, 33, 34, 35, 36, 37, 38, 39, 40, 41, 42, 43, 44, 45, 46, 47, 48, 49, 50, 51, 52, 53, 54, 55, 56, 57, 58, 59] (fun s => [(10, .int .i64 s.1)]) (fun s => [(b, blk (iI u1 u2 u3 s.2.1 s.2.2) 208)]) (fun s => s.1 ≤ 256 ∧ qT p1 s.2.1 s.1 ∧ qT b1 s.2.2 s.1) (fun s => 256 - s.1) (0, P, B) ?_ ?_ ?_ ?_
 ·exact ⟨al _, .start _ hP0, .start _ hB0⟩
 ·exact .cons rfl .nil
 ·exact fun _ h => h
 rintro ⟨i, P, B⟩ y1 ⟨hi, hF, hG⟩
 dsimp only at hi hF hG ⊢
 refine A_5 ?_
 refine KC (fun h1 h1n => ?_) (fun h1 h1n => ?_)
 ·refine A_9 ?_
  have hi' : i < 256 := by (try simp only [decide_eq_true_eq, decide_eq_false_iff_not, beq_iff_eq, beq_eq_false_iff_ne, bne_iff_ne, bne_eq_false_iff_eq, ne_eq] at *); omega
  have hP := hF.len
  have hB := hG.len
  refine A_3 ?_
  refine RS ?_
  refine A_2 ?_
  refine RY (bZ (s := 5) i rfl rfl rfl rfl y_a) rfl (RZ (dD (vs := cO ⟨4, 0, 0, 1, 0⟩) 0 rfl rfl rfl rfl rfl rfl y_bG) rfl ?_)
  simp only [ai, ay]
  rw [show 0 + 3 + i * 5 = 3 + i * 5 by omega, nC hP hi']
  refine A_2 ?_
  have hP : (P.set i ⟨4, 0, 0, 1, 0⟩).length = 256 := by rw [ca]; exact hF.len
  refine A_2 ?_
  refine RW (v := (.int .i64 ((i / 8 : Nat) : Int))) (dU rfl rfl y_b) rfl (cA_ _ (aDG (k := 3) y_b)) (RW (v := (.int .i64 ((i / 8 % 8 : Nat) : Int))) rfl rfl (cA_ _ (aSn o_m)) (A_1 ?_))
  refine RW (v := (.int .i64 ((i % 8 : Nat) : Int))) rfl rfl (cA_ _ (aSn o_m)) (A_4 ?_)
  refine DR [] (pln [0, 2, 6, 8, 14, 16, 20, 22, 5, 10, 13, 18, 24, 27]) ?_
  refine A_3 ?_
  refine DW (v := (.int .i64 ((i / 64 : Nat) : Int))) rfl (dU rfl rfl y_b) rfl (cA_ _ (aDG (k := 6) y_b)) (A_4 ?_)
  refine DX rfl (dX (z := [.int .i64 0]) (l := [.int .i64 17, .int .i64 44, .int .i64 45, .int .i64 46]) (ps := [(0, .int .i64 17), (1, .int .i64 44), (2, .int .i64 45), (3, .int .i64 46)]) rfl rfl rfl rfl y_f y_f) rfl n_h ?_
  rintro _ _ ⟨b26, rfl, rfl⟩
  refine DY rfl (bG (s := 1) (i / 64) rfl rfl rfl rfl o_m) rfl (DZ rfl (aE rfl rfl (aJ (.head _) (aSx (i / 64) o_m))) rfl n_h (DY rfl (eL rfl rfl rfl rfl) rfl (DY rfl (bZ (s := 5) i rfl rfl rfl rfl y_a) rfl ?_)))
  refine DZ rfl (dD (vs := cO (b1 i)) 1 rfl rfl rfl rfl rfl rfl y_bG) rfl n_h ?_
  simp only [ai, ay]
  rw [show 0 + 1283 + i * 5 = 1283 + i * 5 by omega, aLw hP hB hi']
  refine A_4 ?_
  refine RW (v := (.int .i64 ((i / 64 : Nat) : Int))) (dU rfl rfl y_b) rfl (cA_ _ (aDG (k := 6) y_b)) (A_7 ?_)
  refine KC (fun h2 h2n => ?_) (fun h2 h2n => ?_)
  ·have hB : (B.set i (b1 i)).length = 256 := by rw [ca]; exact hG.len
   refine A_5 ?_
   refine RS ?_
   refine A_2 ?_
   refine RY (bZ (s := 5) i rfl rfl rfl rfl y_a) rfl (RZ (dD (vs := cO ⟨7, ((i / 8 % 8 : Nat) : Int), ((i % 8 : Nat) : Int), 1, 0⟩) 1 rfl rfl rfl rfl rfl rfl y_bG) rfl ?_)
   simp only [ai, ay]
   rw [show 0 + 3 + i * 5 = 3 + i * 5 by omega, nC hP hi', List.set_set]
   refine A_2 ?_
   refine RW (v := (.int .i64 ((i + 1 : Nat) : Int))) rfl rfl (cA_ _ (bC o_m)) (A_2 ?_)
   rw [← aRl (i := i) y_a]
   exact ⟨(i + 1, _, _), ⟨y_dP, hF.step hi', hG.step hi'⟩, y_dP, .cons rfl .nil, a_g, fun _ h => h.sub (bf _ _)⟩
  refine A_5 ?_
  refine KC (fun h3 h3n => ?_) (fun h3 h3n => ?_)
  ·have hB : (B.set i (b1 i)).length = 256 := by rw [ca]; exact hG.len
   refine A_5 ?_
   refine RS ?_
   refine A_2 ?_
   refine RY (bZ (s := 5) i rfl rfl rfl rfl y_a) rfl (RZ (dD (vs := cO ⟨10, ((i / 8 % 8 : Nat) : Int), ((i % 8 : Nat) : Int), 1, 0⟩) 1 rfl rfl rfl rfl rfl rfl y_bG) rfl ?_)
   simp only [ai, ay]
   rw [show 0 + 3 + i * 5 = 3 + i * 5 by omega, nC hP hi', List.set_set]
   refine A_2 ?_
   refine RW (v := (.int .i64 ((i + 1 : Nat) : Int))) rfl rfl (cA_ _ (bC o_m)) (A_2 ?_)
   rw [← aTL (i := i) y_a]
   exact ⟨(i + 1, _, _), ⟨y_dP, hF.step hi', hG.step hi'⟩, y_dP, .cons rfl .nil, a_g, fun _ h => h.sub (bf _ _)⟩
  refine A_2 ?_
  refine RW (v := (.int .i64 ((i + 1 : Nat) : Int))) rfl rfl (cA_ _ (bC o_m)) (A_2 ?_)
  rw [← aTH (i := i) y_a y_a]
  exact ⟨(i + 1, _, _), ⟨y_dP, hF.step hi', hG.step hi'⟩, y_dP, .cons rfl .nil, a_g, fun _ h => h.sub (bf _ _)⟩
 refine A_2 ?_
 obtain rfl : 256 = i := by (try simp only [decide_eq_true_eq, decide_eq_false_iff_not, beq_iff_eq, beq_eq_false_iff_ne, bne_iff_ne, bne_eq_false_iff_eq, ne_eq] at *); omega
 obtain rfl := hF.all
 obtain rfl := hG.all
 have hP := hF.len
 have hB := hG.len
 refine A_2 ?_
 refine RS ?_
 refine A_2 ?_
 refine RY (bZ (s := 5) 118 rfl rfl rfl rfl y_b) rfl (RZ (dD (vs := cO ⟨3, 0, 0, 1, 0⟩) 0 rfl rfl rfl rfl rfl rfl y_bG) rfl ?_)
 simp only [ai]
 rw [show 0 + 3 + 118 * 5 = 3 + 118 * 5 from rfl, nC hP y_b]
 refine A_4 ?_
 refine RX (bI K_ rfl (wQ_ aMS)) rfl ?_
 rintro _ _ ⟨_, ⟨b65, L, GL, rfl, rfl, hLl, hok⟩, rfl⟩
 refine bF (H' := (b, blk (iI u1 u2 u3 lX tabB) 208) :: ((b65, blk (aF cPl L) 307) :: GL)) (fun _ h => St.fl [((b65, blk (aF cPl L) 307) :: GL), [_]] [1, 0] rfl h) ?_
 refine RY l_n rfl (A_3 ?_)
 refine bD (σ := Nat) [6, 7, 8, 67, 68, 69, 70, 71, 72, 73, 74, 75, 76, 77, 78, 79, 80, 81, 82, 83, 84, 85, 86, 87, 88, 89, 90, 91, 92, 93, 94, 95, 96, 97, 98, 99, 100, 101, 102, 103] (fun k => [(67, .int .i64 k)]) (fun k => (b, blk (iI u1 u2 u3 ((PL.take k).foldl putQ lX) tabB) 208) :: ((b65, blk (aF cPl L) 307) :: GL)) (fun k => k ≤ 41) (fun k => 41 - k) 0 ?_ ?_ ?_ ?_
 ·exact al _
 ·exact .cons rfl .nil
 ·exact fun _ h => h
 intro k y14 hk
 refine A_5 ?_
 refine KC (fun h4 h4n => ?_) (fun h4 h4n => ?_)
 ·refine A_4 ?_
  obtain ⟨q, hq⟩ : ∃ q, PL[k]? = some q := ⟨_, zN (by rw [aTM]; (try simp only [decide_eq_true_eq, decide_eq_false_iff_not, beq_iff_eq, beq_eq_false_iff_ne, bne_iff_ne, bne_eq_false_iff_eq, ne_eq] at *); omega)⟩
  obtain ⟨⟨pa, pb, pm, pk, ps, px⟩, hp, e1, e2, e3, e4, e5, e6⟩ := hok.get hq
  dsimp only at e1 e2 e3 e4 e5 e6
  subst e1 e2 e3 e4 e5
  obtain ⟨hq1, hq2, hq3, hq4⟩ := aOA (aTo hq)
  have hP2 : ((PL.take k).foldl putQ lX).length = 256 := by rw [aDX, aCI]
  have e7 : (q.x = none ∧ px = .slice none 0 0) ∨ ∃ xs bx, q.x = some xs ∧ px = .slice (Q_ bx) xs.length xs.length ∧ VV.RowsIn GL bx 0 (xs.map (.int .i64)) := by
   cases hx : q.x with
   | none => rw [hx] at e6; exact .inl ⟨rfl, e6⟩
   | some xs => rw [hx] at e6; obtain ⟨bx, h1, h2⟩ := e6; exact .inr ⟨xs, bx, rfl, h1, h2⟩
  rcases e7 with ⟨hx, rfl⟩ | ⟨xs, bx, hx, rfl, hrx⟩
  ·refine A_1 ?_
   refine RY (bG (s := 6) k rfl rfl rfl rfl y_a) rfl (RZ (aK rfl rfl rfl (fun w hw => (aA (.tail _ (.head _)) w hw).nth' aHT hp)) rfl (RX (cG rfl) rfl ?_))
   rintro _ _ ⟨b6, rfl, rfl⟩
   refine RZ s_t rfl (A_8 ?_)
   refine bD (σ := Nat) [7, 8, 73, 74, 75, 76, 77, 78, 79, 80, 81, 82, 83, 84, 85, 86, 87, 88, 89, 90, 91, 92, 93, 94, 95, 96, 97, 98, 99, 100, 101, 102] (fun i => [(73, .int .i64 i)]) (fun i => (b, blk (iI u1 u2 u3 (wJ q ((PL.take k).foldl putQ lX) i) tabB) 208) :: (b6, blk (cPl ⟨q.at_, q.by_, q.many, q.kind, q.size, .slice none 0 0⟩) 307) :: ((b65, blk (aF cPl L) 307) :: GL)) (fun i => i ≤ q.many) (fun i => q.many - i) 0 ?_ ?_ ?_ ?_
   ·exact al _
   ·exact .cons rfl .nil
   ·exact fun _ h => by simp only [aEn]; exact St.fl [[_], [_], ((b65, blk (aF cPl L) 307) :: GL)] [1, 0, 2] rfl h
   intro i y17 hi
   refine A_5 ?_
   refine KC (fun h5 h5n => ?_) (fun h5 h5n => ?_)
   ·refine A_14 ?_
    refine RS ?_
    refine RX (cG rfl) rfl ?_
    rintro _ _ ⟨b8, rfl, rfl⟩
    refine RZ s_t rfl (A_6 ?_)
    refine cY false rfl rfl rfl rfl ?_
    refine A_3 ?_
    have hP : (wJ q ((PL.take k).foldl putQ lX) i).length = 256 := by rw [aB0]; exact hP2
    refine DR [3, 4, 5, 6, 8, 9, 10] (pln [0, 2, 4, 6, 8, 10, 12, 14, 16, 18, 20, 22, 25]) ?_
    refine A_6 ?_
    refine DW (v := (.int .i64 ((q.by_ * i : Nat) : Int))) rfl rfl rfl (cA_ _ y_eK) (DW (v := (.int .i64 ((q.at_ + q.by_ * i : Nat) : Int))) rfl rfl rfl (cA_ _ y_eM) (cL rfl rfl rfl rfl y_bj rfl rfl ?_))
    refine A_2 ?_
    refine DY rfl (bZ (s := 5) (q.at_ + q.by_ * i) rfl rfl rfl rfl (hq1 i y_a)) rfl (DZ rfl (dD (vs := cO (qOp q i)) 1 rfl rfl (by rw [aO7 hx]; rfl) rfl rfl rfl y_eJ) rfl n_h ?_)
    simp only [ai, ay]
    rw [show 0 + 3 + (q.at_ + q.by_ * i) * 5 = 3 + (q.at_ + q.by_ * i) * 5 by omega, nC hP (hq1 i y_a), ← aAm]
    refine A_2 ?_
    refine RW (v := (.int .i64 ((i + 1 : Nat) : Int))) rfl rfl (cA_ _ (bC o_m)) (A_2 ?_)
    exact ⟨i + 1, y_dP, y_dP, .cons rfl .nil, a_g, fun _ h => h.sub (bf _ _)⟩
   refine A_2 ?_
   refine RW (v := (.int .i64 ((k + 1 : Nat) : Int))) rfl rfl (cA_ _ (bC o_m)) (A_2 ?_)
   obtain rfl : q.many = i := by (try simp only [decide_eq_true_eq, decide_eq_false_iff_not, beq_iff_eq, beq_eq_false_iff_ne, bne_iff_ne, bne_eq_false_iff_eq, ne_eq] at *); omega
   exact ⟨k + 1, y_dP, y_dP, .cons rfl .nil, a_g, fun _ h => y_c3⟩
  refine A_1 ?_
  refine RY (bG (s := 6) k rfl rfl rfl rfl y_a) rfl (RZ (aK rfl rfl rfl (fun w hw => (aA (.tail _ (.head _)) w hw).nth' aHT hp)) rfl (RX (cG rfl) rfl ?_))
  rintro _ _ ⟨b6, rfl, rfl⟩
  refine RZ s_t rfl (A_8 ?_)
  refine bD (σ := Nat) [7, 8, 73, 74, 75, 76, 77, 78, 79, 80, 81, 82, 83, 84, 85, 86, 87, 88, 89, 90, 91, 92, 93, 94, 95, 96, 97, 98, 99, 100, 101, 102] (fun i => [(73, .int .i64 i)]) (fun i => (b, blk (iI u1 u2 u3 (wJ q ((PL.take k).foldl putQ lX) i) tabB) 208) :: (b6, blk (cPl ⟨q.at_, q.by_, q.many, q.kind, q.size, .slice (Q_ bx) xs.length xs.length⟩) 307) :: ((b65, blk (aF cPl L) 307) :: GL)) (fun i => i ≤ q.many) (fun i => q.many - i) 0 ?_ ?_ ?_ ?_
  ·exact al _
  ·exact .cons rfl .nil
  ·exact fun _ h => by simp only [aEn]; exact St.fl [[_], [_], ((b65, blk (aF cPl L) 307) :: GL)] [1, 0, 2] rfl h
  intro i y17 hi
  refine A_5 ?_
  refine KC (fun h6 h6n => ?_) (fun h6 h6n => ?_)
  ·refine A_14 ?_
   refine RS ?_
   refine RX (cG rfl) rfl ?_
   rintro _ _ ⟨b8, rfl, rfl⟩
   refine RZ s_t rfl (A_6 ?_)
   refine cY true rfl rfl rfl rfl ?_
   refine A_6 ?_
   refine RY (bG (s := 1) i rfl rfl rfl rfl y_bN) rfl (RZ (aE rfl rfl (fun w hw => by rw [ep]; exact (hrx.row (fun x hx => by repeat (first | exact hx | refine .tail _ ?_ | refine mR_ _ ?_)) w hw) i _ (aHS y_bN))) rfl ?_)
   refine A_1 ?_
   refine RZ s_t rfl (A_1 ?_)
   have hP : (wJ q ((PL.take k).foldl putQ lX) i).length = 256 := by rw [aB0]; exact hP2
   refine DR [3, 4, 5, 6, 8, 9, 10] (pln [0, 2, 4, 6, 8, 10, 12, 14, 16, 18, 20, 22, 25]) ?_
   refine A_6 ?_
   refine DW (v := (.int .i64 ((q.by_ * i : Nat) : Int))) rfl rfl rfl (cA_ _ y_eK) (DW (v := (.int .i64 ((q.at_ + q.by_ * i : Nat) : Int))) rfl rfl rfl (cA_ _ y_eM) (cL rfl rfl rfl rfl y_bj rfl rfl ?_))
   refine A_2 ?_
   refine DY rfl (bZ (s := 5) (q.at_ + q.by_ * i) rfl rfl rfl rfl (hq1 i y_a)) rfl (DZ rfl (dD (vs := cO (qOp q i)) 1 rfl rfl (by rw [aNP hx]; rfl) rfl rfl rfl y_eJ) rfl n_h ?_)
   simp only [ai, ay]
   rw [show 0 + 3 + (q.at_ + q.by_ * i) * 5 = 3 + (q.at_ + q.by_ * i) * 5 by omega, nC hP (hq1 i y_a), ← aAm]
   refine A_2 ?_
   refine RW (v := (.int .i64 ((i + 1 : Nat) : Int))) rfl rfl (cA_ _ (bC o_m)) (A_2 ?_)
   exact ⟨i + 1, y_dP, y_dP, .cons rfl .nil, a_g, fun _ h => h.sub (bf _ _)⟩
  refine A_2 ?_
  refine RW (v := (.int .i64 ((k + 1 : Nat) : Int))) rfl rfl (cA_ _ (bC o_m)) (A_2 ?_)
  obtain rfl : q.many = i := by (try simp only [decide_eq_true_eq, decide_eq_false_iff_not, beq_iff_eq, beq_eq_false_iff_ne, bne_iff_ne, bne_eq_false_iff_eq, ne_eq] at *); omega
  exact ⟨k + 1, y_dP, y_dP, .cons rfl .nil, a_g, fun _ h => y_c3⟩
 refine A_2 ?_
 obtain rfl : 41 = k := by (try simp only [decide_eq_true_eq, decide_eq_false_iff_not, beq_iff_eq, beq_eq_false_iff_ne, bne_iff_ne, bne_eq_false_iff_eq, ne_eq] at *); omega
 rw [show PL.take 41 = PL from rfl]
 have hQl : (PL.foldl putQ lX).length = 256 := by rw [aDX, aCI]
 obtain ⟨PQ, hPQ⟩ : ∃ X, PL.foldl putQ lX = X := ⟨_, rfl⟩
 rw [hPQ]
 rw [hPQ] at hQl
 refine A_4 ?_
 refine bD (σ := Nat) [9, 104, 105, 106, 107, 108, 109, 110, 111, 112, 113, 114, 115, 116, 117, 118] (fun y => [(104, .int .i64 y)]) (fun y => (b, blk (iI u1 u2 u3 (aAl PQ y) tabB) 208) :: ((b65, blk (aF cPl L) 307) :: GL)) (fun y => y ≤ 8) (fun y => 8 - y) 0 ?_ ?_ ?_ ?_
 ·exact al _
 ·exact .cons rfl .nil
 ·exact fun _ h => by simp only [aKo]; exact h
 intro y y26 hy
 refine A_5 ?_
 refine KC (fun h7 h7n => ?_) (fun h7 h7n => ?_)
 ·refine A_8 ?_
  have hy8 : y < 8 := by (try simp only [decide_eq_true_eq, decide_eq_false_iff_not, beq_iff_eq, beq_eq_false_iff_ne, bne_iff_ne, bne_eq_false_iff_eq, ne_eq] at *); omega
  have hP : (aAl PQ y).length = 256 := by rw [aNo]; exact hQl
  have hB : tabB.length = 256 := by simp [tabB]
  refine A_3 ?_
  refine RW (v := (.int .i64 ((8 * y : Nat) : Int))) rfl rfl (cA_ _ y_cF) (RW (v := (.int .i64 ((199 + 8 * y : Nat) : Int))) rfl rfl (cA_ _ y_cF) (A_1 ?_))
  refine RW (v := (.int .i64 ((8 * y : Nat) : Int))) rfl rfl (cA_ _ y_cF) (RW (v := (.int .u16 ((8 * y : Nat) : Int))) rfl rfl (cA_ _ (fT o_m o_m)) (RS ?_))
  refine A_2 ?_
  refine RY (bZ (s := 5) (199 + 8 * y) rfl rfl rfl rfl y_a) rfl (RZ (dD (vs := cO ⟨28, 0, 0, 1, ((8 * y : Nat) : Int)⟩) 0 rfl rfl rfl rfl rfl rfl y_bG) rfl ?_)
  simp only [ai]
  rw [show 0 + 3 + (199 + 8 * y) * 5 = 3 + (199 + 8 * y) * 5 by omega, nC hP o_m, ← aEw]
  refine A_2 ?_
  refine RW (v := (.int .i64 ((y + 1 : Nat) : Int))) rfl rfl (cA_ _ (bC o_m)) (A_2 ?_)
  exact ⟨y + 1, y_dP, y_dP, .cons rfl .nil, a_g, fun _ h => h⟩
 refine A_1 ?_
 obtain rfl : 8 = y := by (try simp only [decide_eq_true_eq, decide_eq_false_iff_not, beq_iff_eq, beq_eq_false_iff_ne, bne_iff_ne, bne_eq_false_iff_eq, ne_eq] at *); omega
 rw [← hPQ, aSJ]
 exact EN (.cons_cons _ (List.nil_sublist _)) ⟨rfl, rfl⟩
def disable (w : AI) : (callFunc 230 #[]).run prog w = .ok (.value (.tuple #[])) w := run_call_mark0 func230 y_f y_f y_f .disable y_f w
def enable (w : AI) : (callFunc 232 #[]).run prog w = .ok (.value (.tuple #[])) w := run_call_mark0 func232 y_f y_f y_f .enable y_f w
def acquire (a : Addr) (w : AI) : (callFunc 233 #[.pointer (some a)]).run prog w = .ok (.value (.tuple #[])) w := run_call_marked func233 y_f y_f y_f .acquire y_f a w
def releaseMerge (a : Addr) (w : AI) : (callFunc 235 #[.pointer (some a)]).run prog w = .ok (.value (.tuple #[])) w := run_call_marked func235 y_f y_f y_f .releaseMerge y_f a w
def aDI (a : Addr) (x : AH) (u : FrameMode) (w : AI) (hc : w.cell? a = some x) (hz : w.frozen? a = false) :
  CallsD prog 57 #[.pointer (some a), .bool true] u w fun e u' w' => u' = u ∧ (e = .returned (.tuple #[]) ∧ w' = w.drew.setCell a (.int .u32 1)) := by
 have hc' : w.drew.cell? a = some x := by go_simp
 have hz' : w.drew.frozen? a = false := by go_simp
 have hst := run_call_store (P := prog) func106 y_f y_f y_f y_f (k := .u32) (y := 1) hc' hz'
 go_enter_d func57, Tryz.ntmps57
 go_wp2
 go_region_calls
 all_goals (go_end0; exact ⟨rfl, rfl⟩)
def aC4 (a : Addr) (u : FrameMode) (w : AI) (hc : w.cell? a = some (.int .i32 1)) (hz : w.frozen? a = false) :
  CallsD prog 188 #[.pointer (some a)] u w fun e u' w' => u' = u ∧ (e = .returned (.tuple #[]) ∧ w' = w.setCell a (.int .i32 0)) := by
 have hd := disable
 have he := enable
 have hr := releaseMerge
 have hadd := run_call_add (P := prog) func236 y_f y_f y_f .i32 y_f (y := -1) (s := 0) hc hz (by simp [go_sem]; rfl)
 have hcv := run_convert_to_unsafe (P := prog) (src := 384) (dst := 379) Tryz.underlying384 Tryz.underlying379 y_f hc
 go_enter_d func188, Tryz.ntmps188
 go_wp2
 go_end0
 go_wp2
 go_end0
 exact ⟨rfl, rfl⟩
def aLk (a : Addr) (w : AI) (hc : w.cell? a = some (.int .i32 0)) (hz : w.frozen? a = false) :
  Calls prog 187 #[.pointer (some a)] w fun e w' => e = .returned (.tuple #[]) ∧ w' = w.setCell a (.int .i32 1) := by
 have hd := disable
 have he := enable
 have ha := acquire
 have hcas := run_call_cas_hit (P := prog) func231 y_f y_f y_f .i32 y_f (y := 1) hc hz
 have hc' : (w.setCell a (.int .i32 1)).cell? a = some (.int .i32 1) := World.cell?_setCell_same w a _ hc
 have hcv := run_convert_to_unsafe (P := prog) (src := 384) (dst := 379) Tryz.underlying384 Tryz.underlying379 y_f hc'
 go_enter func187, Tryz.ntmps187
 go_wp2
 first | go_end0 | (simp only [Exit.inBlock, Exit.then]; refine bodyPost_ret (results_none rfl _ _ _) rfl ?_) | refine bodyPost_ret (results_none rfl _ _ _) rfl ?_
 go_wp2
 go_end0
 exact ⟨rfl, rfl⟩
set_option maxHeartbeats 1600000 in
def aMf (b : Nat) (w : AI) (F : AI → Prop)
  (h0 : w.cell? ⟨b, 0, none⟩ = some (.int .u32 0)) (h1 : w.cell? ⟨b, 0 + 1, none⟩ = some (.int .i32 0)) (f1 : w.frozen? ⟨b, 0 + 1, none⟩ = false)
  (hf : Calls prog 113 #[P_ b] (w.setCell ⟨b, 0 + 1, none⟩ (.int .i32 1)) fun e w' => e = .returned (.tuple #[]) ∧ F w')
  (hF : ∀ w', F w' → w'.cell? ⟨b, 0, none⟩ = some (.int .u32 0) ∧ w'.cell? ⟨b, 0 + 1, none⟩ = some (.int .i32 1) ∧ w'.frozen? ⟨b, 0, none⟩ = false ∧ w'.frozen? ⟨b, 0 + 1, none⟩ = false) :
  Calls prog 154 #[P_ b, .func (.func 113) #[P_ b] #[]] w fun e w' => e = .returned (.tuple #[]) ∧
   ∃ w2, F w2 ∧ w' = (w2.drew.setCell ⟨b, 0, none⟩ (.int .u32 1)).setCell ⟨b, 0 + 1, none⟩ (.int .i32 0) := by
 have hl := run_call_load (P := prog) func186 y_f y_f y_f .u32 y_f (w := w.setCell ⟨b, 0 + 1, none⟩ (.int .i32 1)) (a := ⟨b, 0, none⟩) (x := 0) ((World.cell?_setCell_other _ ⟨b, 0 + 1, none⟩ ⟨b, 0, none⟩ _ y_r).trans h0)
 have hnot : ∀ (x : Bool) (w : AI), (Op.unary .not (.bool x)).run prog w = .ok (.bool (!x)) w := fun _ _ => rfl
 go_enter_defers func154, Tryz.ntmps154
 go_wp2_with (go_at_call 187; refine (aLk ⟨b, 0 + 1, none⟩ _ (by go_simp) (by go_simp)).mono ?_; rintro e w' ⟨rfl, rfl⟩)
 go_wp2_with (first | (go_at_call 113; refine hf.mono ?_; rintro e w' ⟨rfl, hw2⟩) | (go_at_call 153; go_in))
 obtain ⟨c0, c1, z0, z1⟩ := hF _ hw2
 refine leaves_cons (f := 57) (args := #[P_ b, .bool true]) y_r (by simp [go_sem]) ?_
 refine (aDI ⟨b, 0, none⟩ (.int .u32 0) .returning _ c0 z0).mono ?_
 rintro e u' w'' ⟨rfl, rfl, rfl⟩
 refine leaves_cons (f := 188) (args := #[.pointer (some ⟨b, 0 + 1, none⟩)]) (by simp [settle]) (by simp [go_sem]) ?_
 refine (aC4 ⟨b, 0 + 1, none⟩ _ _ ?_ ?_).mono ?_
 ·refine (World.cell?_setCell_other _ ⟨b, 0, none⟩ ⟨b, 0 + 1, none⟩ _ y_r).trans ?_
  rw [World.cell?_drew]
  exact c1
 ·simpa using z1
 rintro e u' w'' ⟨rfl, rfl, rfl⟩
 simp [Leaves, settle, results, Tryz.results154]
 exact ⟨_, hw2, rfl⟩
def rC (b : Nat) (u3 : AH) : aC := [(b, blk (iI (.int .u32 1) (.int .i32 0) u3 rJ tabB) 208)]
def iW (b : Nat) (u3 : AH) (H : aC) : Prop :=
 (∃ P B, P.length = 256 ∧ B.length = 256 ∧ H = [(b, blk (iI (.int .u32 0) (.int .i32 0) u3 P B) 208)]) ∨ H = rC b u3
def aKE (b : Nat) (d : Int) (w : AI) (h0 : w.cell? ⟨b, 0, none⟩ = some (.int .u32 d)) :
  Calls prog 153 #[P_ b] w fun e w' => e = .returned (.bool (d != 0)) ∧ w' = w := by
 have hl := run_call_load (P := prog) func186 y_f y_f y_f .u32 y_f h0
 go_enter func153, Tryz.ntmps153
 go_wp2
 go_ret
 exact ⟨rfl, rfl⟩
def aHG (b : Nat) (d : Int) (w : AI) (h0 : w.cell? ⟨b, 0, none⟩ = some (.int .u32 d)) :
  aB prog 153 [P_ b] w [] (V_ (.bool (d != 0))) := by
 refine Calls.mono (aKE b d w h0) ?_
 rintro e w' ⟨rfl, rfl⟩
 exact ⟨_, [], rfl, St.refl _, rfl, rfl⟩
def aRB (b : Nat) (u3 : AH) (P B : List Opr) (hP : P.length = 256) (hB : B.length = 256) (w : AI) (hb : w.heap[b]? = some (blk (iI (.int .u32 0) (.int .i32 0) u3 P B) 208)) :
  aB prog 154 [P_ b, .func (.func 113) #[P_ b] #[]] w [b] (fun v H => v = .tuple #[] ∧ H = rC b u3) := by
 have hst := St.lent1 hb
 have h1 : St w [b] [(b, blk (iI (.int .u32 0) (.int .i32 1) u3 P B) 208)] (w.setCell ⟨b, 0 + 1, none⟩ (.int .i32 1)) := hst.setCell (off := 0 + 1) (.int .i32 1)
 have hb1 := h1.holds _ (.head _)
 refine Calls.mono (aMf b w (fun w2 => St (w.setCell ⟨b, 0 + 1, none⟩ (.int .i32 1)) [b] [(b, blk (iI (.int .u32 0) (.int .i32 1) u3 rJ tabB) 208)] w2)
  (by rw [gX hb]; rfl) (by rw [gX hb]; rfl) (nM hb) (Calls.mono (aQV b _ _ _ P B hP hB _ hb1) ?_) ?_) ?_
 ·rintro e w' ⟨v, H, rfl, h2, rfl, rfl⟩
  exact ⟨rfl, h2⟩
 ·intro w2 h2
  have hb2 := h2.holds _ (.head _)
  exact ⟨by rw [gX hb2]; rfl, by rw [gX hb2]; rfl, nM hb2, nM hb2⟩
 ·rintro e w' ⟨rfl, w2, h2, rfl⟩
  have hA := h1.after h2
  have hC := (hA.drew.setCell (off := 0) (.int .u32 1)).setCell (off := 0 + 1) (.int .i32 0)
  exact ⟨_, _, rfl, hC, rfl, rfl⟩
def nQ (mb ub rb tb ob oc : Nat) (sp : AA) (plan : AH) (n : Nat) : Ad := { mb := mb, ub := ub, rb := rb, ob := ob, oc := oc, sp := sp, rc := n, rs := [], plan := plan, tab := P_ tb }
def aSo : CR := ⟨1, 176, 0, 19, 0, 216, 1, 77, 65534, 256⟩
def newM0 (rom : AB) : Mm := { cpu := ⟨r0, false, false, false, false⟩, bk := ⟨0, 0, 0, false, false, 0, 0, 0⟩, ck := ⟨0, 0, 0, 0, 0, false, false, 0, 0, 0, 0, 0⟩, tm := ⟨0, 0, 0, 0, false⟩, pd := ⟨0, 0⟩, pt := ⟨0, 0, 0, 0, 0, 0⟩, cp := ⟨0, 0⟩, bd := bdZ, flags := 0, lets := 0, steps := 0, cycles := 0, hd := hdH rom, u := fX, rom := rom, ram := List.replicate (hdH rom).ram.toNat 0, work := List.replicate 8192 0, high := List.replicate 127 0, acc := [] }
def aJj (rom : AB) : Mm := { newM0 rom with bk := ⟨(hdH rom).kind, (hdH rom).banks, (hdH rom).ram, decide ((hdH rom).kind = 0), false, 1, 0, 255⟩ }
def jP (rom : AB) : Mm := { aJj rom with cpu := ⟨aSo, false, false, false, false⟩ }
def aJo (A : Ad) (acc : AH) (m : Mm) (n : Nat) : AA := iB m ++ (cBd m.bd ++ (([.int .u8 m.flags, .int .u8 m.lets, .int .u64 m.steps, .int .u64 m.cycles, .slice (Q_ A.ob) m.rom.length A.oc, A.plan] ++ (cHd m.hd ++ [A.tab, P_ A.ub, .slice (Q_ A.rb) n A.rc])) ++ (m.work.map (.int .u8) ++ (m.high.map (.int .u8) ++ [acc]))))
def cMmR_eq {A : Ad} {acc : AH} {m : Mm} {n : Nat} (h : m.ram.length = n) : aJo A acc m n = cMm A acc m := by subst h; rfl
def xQ (rom : AB) : MLn (newM0 rom) := ⟨bdZ_wf.ln, bz, bz⟩
def aDK (rom : AB) : (hdH rom).ram = ((hdH rom).ram.toNat : Int) ∧ (hdH rom).ram.toNat ≤ 131072 := by
 have h : 0 ≤ (hdH rom).ram ∧ (hdH rom).ram ≤ 131072 := aQK _ _
 omega
def iW.one {b : Nat} {u3 : AH} {H : aC} (h : iW b u3 H) : ∃ o, H = [(b, o)] := by
 rcases h with ⟨P, B, _, _, rfl⟩ | rfl
 ·exact ⟨_, rfl⟩
 ·exact ⟨_, rfl⟩
def vnf_int {k : AM} {x y : Int} (h : x = y) : vnf (.int k x) = some (.int k y) := by rw [h]; rfl
end Go.Proofs.YtacejanlmhbddaaGreat
