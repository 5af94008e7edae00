/- Parts. -/
import Derived.Test.YthigpmaadmneaaaGreatDoorProg
import Derived.Test.YthigpmaadmneaaaGreatDoorQsE
set_option maxRecDepth 100000
set_option maxHeartbeats 1000000
set_option linter.all false
namespace Go.Proofs.YthigpmaadmneaaaGreatDoor
open Go Go.VV Go.Proofs Go.RowKit Go.Proofs.Tryz
def aKJ : ∀ (R : AB) (n : Int), R.length = 12 → R.getD 4 0 = 0 → R.getD 6 0 = 0 → (((R.set 4 n).take 6 ++ 0 :: ((R.set 4 n).drop 7)).set 4 0) = R
 | [_, _, _, _, a, _, b, _, _, _, _, _], _, _, h4, h6 => by
  have h4 : a = 0 := h4
  have h6 : b = 0 := h6
  subst h4 h6; rfl
def aP8 {x : Int} (hx : 0 ≤ x ∧ x < 256) : aQ .u8 x 120 = x → lB .u8 x 120 = 0 :=
 eH (p := fun x => aQ .u8 x 120 = x → lB .u8 x 120 = 0) eU hx.1 hx.2
def Qh {A B : AB} {j : Nat} (h : j < A.length) : (A ++ B).getD j 0 = A.getD j 0 := by
 rw [fV, dp h, ← fV]
section
variable {u : PU} (h : u.Wf)
include h
omit h in
def D2 : fQ u = u.V ++ (u.O ++ ((r4 u).take 6 ++ ((r4 u).drop 7 ++ (sF u ++ u.P)))) := by simp [fQ, vH, Dt, eC]
def aFd : (fQ u).drop 8192 = u.O ++ ((r4 u).take 6 ++ ((r4 u).drop 7 ++ (sF u ++ u.P))) := by rw [D2, ez h.lV]
def Sx : (fQ u).drop 8352 = (r4 u).take 6 ++ ((r4 u).drop 7 ++ (sF u ++ u.P)) := by rw [show 8352 = 8192 + 160 by rfl, ← bw, aFd h, ez h.lO]
def V8 : (fQ u).drop 8358 = (r4 u).drop 7 ++ (sF u ++ u.P) := by rw [show 8358 = 8352 + 6 by rfl, ← bw, Sx h, ez Tz]
def aCQ : (fQ u).drop 8363 = sF u ++ u.P := by rw [show 8363 = 8358 + 5 by rfl, ← bw, V8 h, ez Tz]
def aFo : (fQ u).drop 8368 = u.P := by rw [show 8368 = 8363 + 5 by rfl, ← bw, aCQ h, ez (l₁ := sF u) (show (sF u).length = 5 from rfl)]
def aEY : (fQ u).getD 8356 0 = u.line := by
 rw [show 8356 = 8352 + 4 by rfl, ← Cq, Sx h, Qh Tz, Kg _ M]
 unfold r4
 rw [fV, iu (by rw [h.lR]; decide)]; rfl
def aLG : (fQ u).getD 8353 0 = u.R.getD 1 0 := by
 rw [show 8353 = 8352 + 1 by rfl, ← Cq, Sx h, Qh Tz, Kg _ M]
 unfold r4
 rw [fV, ge M, ← fV]
def Da {j : Nat} (hj : j < 5) : (fQ u).getD (8363 + j) 0 = (sF u).getD j 0 := by rw [← Cq, aCQ h, Qh (by simpa [sF] using hj)]
def enc_byts : bE (fQ u) := by
 have hb : ∀ {A B : AB}, bE A → bE B → bE (A ++ B) := fun ha hb x hx => (List.mem_append.1 hx).elim (ha x) (hb x)
 have h4 : bE (r4 u) := fun x hx => by
  rcases ey hx with h1 | rfl
  ·exact h.bR x h1
  ·have := h.line; omega
 rw [D2]
 refine hb h.bV (hb h.bO (hb (fun x hx => h4 x (dh hx)) (hb (fun x hx => h4 x (di hx)) (hb (fun x hx => ?_) h.bP))))
 have h1 := h.dot; have h2 := h.own; have h3 := h.frames
 simp only [sF, eg, ec, or_false] at hx
 rcases hx with rfl | rfl | rfl | rfl | rfl
 ·omega
 ·omega
 ·omega
 ·omega
 ·unfold gV; split <;> decide
end
section
variable {u : PU} (h : u.Good)
include h
def aPm : uH (fQ u) = u := by
 have hw := h.ok.wf
 unfold uH qG
 rw [show (fQ u).take 8192 = u.V by rw [D2, fy hw.lV], aFd hw, fy hw.lO, Sx hw, fy (by simp [r4_len hw]), V8 hw, fy (by simp [r4_len hw]), aFo hw, aEY hw,
  show (fQ u).getD 8363 0 = u.dot from Da hw (j := 0) M, show (fQ u).getD 8364 0 = u.own % 256 from Da hw (j := 1) M, show (fQ u).getD 8365 0 = u.frames % 256 from Da hw (j := 2) M,
  show (fQ u).getD 8366 0 = u.frames / 256 from Da hw (j := 3) M, show (fQ u).getD 8367 0 = gV u.sig from Da hw (j := 4) M]
 have e1 : ((r4 u).take 6 ++ 0 :: (r4 u).drop 7).set 4 0 = u.R := aKJ u.R u.line hw.lR h.r4 h.r6
 have h1 := h.own_lt; have h2 := hw.own; have h3 := hw.frames
 rw [e1, show u.own % 256 = u.own by omega, show u.frames % 256 + 256 * (u.frames / 256) = u.frames by omega]
 have e2 : (gV u.sig == 1) = u.sig := by unfold gV; cases u.sig <;> rfl
 rw [e2]
def aIF : mN (fQ u) = true := by
 have hw := h.ok.wf
 refine aDa (by rw [aEY hw]; exact h.ok.line) (by rw [show (fQ u).getD 8363 0 = u.dot from Da hw (j := 0) M]; exact h.ok.dot) ?_ ?_ ?_
 ·rw [aLG hw, aP8 (hw.look 1) hw.how]; rfl
 ·rw [show (fQ u).getD 8367 0 = gV u.sig from Da hw (j := 4) M]; unfold gV; split <;> decide
 ·rw [aFo hw, List.any_eq_false]
  intro x hx
  have := h.pic x hx
  simp; omega
def aOc : lK (fQ u) = 0 := (B6 (Um h.ok.wf) (aIF h)).symm
end
def aMi {x : Int} (h1 : 0 ≤ x) (h2 : x < 256) : (lB .u8 x 120 == 0) = true → aQ .u8 x 120 = x :=
 eH (p := fun x => (lB .u8 x 120 == 0) = true → aQ .u8 x 120 = x) eU h1 h2
def X1 {l : AB} (hl : l.length = 31408) (hb : bE l) (ho : mN l = true) : (uH l).Wf := by
 unfold mN at ho
 simp only [cq, al] at ho
 obtain ⟨⟨⟨⟨h1, h2⟩, h3⟩, h4⟩, h5⟩ := ho
 have c0 := hb.get 8356; have c1 := hb.get 8363; have c2 := hb.get 8364; have c3 := hb.get 8365; have c4 := hb.get 8366; have c5 := hb.get 8353
 have hR : bE (qG l) := fun x hx => by
  unfold qG at hx
  rcases ey hx with h9 | rfl
  ·rcases List.mem_append.1 h9 with h8 | h8
   ·exact hb x (di (dh h8))
   ·rcases List.mem_cons.1 h8 with rfl | h7
    ·decide
    ·exact hb x (di (dh h7))
  ·decide
 have hA : ((l.drop 8352).take 6).length = 6 := by simp [hl]
 have e1 : (qG l).getD 1 0 = l.getD 8353 0 := by
  unfold qG
  rw [fV, ge M, ← fV, Qh (by rw [hA]; decide), Kg _ M, Cq]
 refine ⟨?_, ?_, ?_, ?_, fun x hx => hb x (dh hx), fun x hx => hb x (di (dh hx)), hR, fun x hx => hb x (di hx), ?_, ?_, ?_, ?_, ?_⟩
 ·show (l.take 8192).length = _; simp [hl]
 ·show ((l.drop 8192).take 160).length = _; simp [hl]
 ·show (qG l).length = _; simp [qG, hl]
 ·show (l.drop 8368).length = _; simp [hl]
 ·show 0 ≤ l.getD 8356 0 ∧ l.getD 8356 0 ≤ 154; omega
 ·show 0 ≤ l.getD 8363 0 ∧ l.getD 8363 0 ≤ 114; omega
 ·show 0 ≤ l.getD 8364 0 ∧ l.getD 8364 0 ≤ 600; omega
 ·show 0 ≤ l.getD 8365 0 + 256 * l.getD 8366 0 ∧ l.getD 8365 0 + 256 * l.getD 8366 0 < 65536; omega
 ·show aQ .u8 ((qG l).getD 1 0) 120 = (qG l).getD 1 0
  rw [e1]; exact aMi c5.1 c5.2 h3
def Ej : AA := cS ⟨r0, false, false, false, false⟩ ++ (jY ⟨0, 0, 0, false, false, 0, 0, 0⟩ ++ (nJ ⟨0, 0, 0, 0, 0, false, false, 0, 0, 0, 0, 0⟩ ++ (iZ ⟨0, 0, 0, 0, false⟩ ++ (mT ⟨0, 0⟩ ++ (pQ ⟨0, 0, 0, 0, 0, 0⟩ ++ (cCp ⟨0, 0⟩ ++ (cBd bdZ ++
 ([.int .u8 0, .int .u8 0, .int .u64 0, .int .u64 0, .slice none 0 0, .slice none 0 0] ++ (cHd ⟨[], 0, false, false, 0, 0, false⟩ ++ ([.pointer none, .pointer none, .slice none 0 0] ++ ((List.replicate 8192 (0 : Int)).map (.int .u8) ++ ((List.replicate 127 (0 : Int)).map (.int .u8) ++ [.slice none 0 0]))))))))))))
def aCh : Ej.length = 8455 := by
 unfold Ej
 simp only [bQ, eD, cx, eF, ax, cBd_len bdZ_wf.ln]
 rfl
section
variable {A : Ad} {acc : AH} {m : Mm}
def aG6 (h : fL [acc, A.plan, A.tab] = true) : fL (tT A m) = true := by
 unfold fL at h ⊢
 simp only [go, j6, iy, cq] at h
 unfold tT
 simp only [ga, go, j6, h.2.1, h.2.2, iy, ic]
 rfl
def aE2 (h : fL [acc, A.plan, A.tab] = true) : fL (cMm A acc m) = true := by
 have h1 := ones_cBd m.bd
 have h2 := kE .u8 m.work
 have h3 := kE .u8 m.high
 have h4 := aG6 (m := m) h
 have h5 : fL (lJ m) = true := rfl
 rw [vB]
 unfold iW
 unfold fL at h h1 h2 h3 h4 h5 ⊢
 simp only [go, j6, iy, cq] at h
 simp only [ga, h1, h2, h3, h4, h5, go, j6, h.1, iy]
def aLn (h : dY m) (b c : Nat) (s : AA) : aV (cMm A acc m) 134 [.slice (Q_ b) m.ram.length c] = cMm { A with rb := b, rc := c, rs := s } acc m := (En h (o := 15) M).trans rfl
def aEG (h : dY m) (b : Nat) : aV (cMm A acc m) 133 [P_ b] = cMm { A with ub := b } acc m := (En h (o := 14) M).trans rfl
end
def aNA {α : Type} : ∀ L : List α, (List.range L.length).filterMap (fun i => L[i]?) = L := fun L => by
 have key : ∀ n, n ≤ L.length → (List.range n).filterMap (fun i => L[i]?) = L.take n := fun n => by
  induction n with
  | zero => intro _; rfl
  | succ n ih => intro hn; rw [ej, List.filterMap_append, ih I, fk]; simp [am (show n < L.length by omega)]
 rw [key _ (bi _), dq]
def St.perm_ix {w0 w : AI} {ms : AE} {L L' : aF} (n : Nat) (p : AE) (hp : p.Perm (List.range n)) (hn : L.length = n) (hl : L' = p.filterMap (fun i => L[i]?)) (hw : St w0 ms L w) : St w0 ms L' w := by
 subst hl hn
 refine hw.perm ?_
 have := (hp.filterMap (fun i => L[i]?)).symm
 rwa [aNA] at this
def aD6 {l : AB} (h : lK l = 0) : l.length = 31408 ∧ mN l = true := by
 unfold lK at h
 split at h
 ·cases h
 ·rename_i h1
  split at h
  ·rename_i h2; exact ⟨Decidable.byContradiction h1, h2⟩
  ·cases h
def aOU {l : AB} (hb : bE l) (h : lK l = 0) : (uH l).Ok := by
 obtain ⟨hl, ho⟩ := aD6 h
 have hw := X1 hl hb ho
 unfold mN at ho
 simp only [cq, al] at ho
 have h1 := hb.get 8356; have h3 := hb.get 8364
 exact ⟨hw, ho.1.1.1.1, ho.1.1.1.2, by show l.getD 8364 0 ≤ 255 + l.getD 8356 0 + _; split <;> omega⟩
def aJH {u : PU} (hu : u.Wf) {l : AB} (hb : bE l) : (lD u l).Wf := by
 unfold lD
 split
 ·rename_i h; obtain ⟨hl, ho⟩ := aD6 h; exact X1 hl hb ho
 ·exact hu
section
variable {m : Mm} (h : m.Wf)
include h
def yF : (fM m).length = 39890 + m.ram.length := by
 unfold fM
 rw [bQ, bQ, Wo h, Um h.u.wf]; omega
def aNb : bE (fM m) := pN (aOg h) (pN h.bRam (enc_byts h.u.wf))
def fG (m : Mm) (l : AB) : Mm := { Sj m l with u := uH (l.drop (8482 + m.ram.length)) }
variable {l : AB} (hb : bE l) (hl : l.length = (fM m).length)
include hl
def Vk : ((l.drop 8482).take m.ram.length).length = m.ram.length := by
 rw [fZ, dN, hl, yF h]; omega
def aMt {A : Ad} {acc : AH} : cMm A acc (yU m l) = cMm A acc (fG m l) := by
 have e := Vk h hl
 unfold cMm iW tT
 rw [show (fG m l).ram.length = m.ram.length from e]
 rfl
include hb
def aIH (hd : lK (l.drop (8482 + m.ram.length)) = 0) : (fG m l).Wf := by
 have e := Vk h hl
 have w := aEK h hb (by rw [hl, yF h]; omega)
 exact ⟨w.bk, w.ck, w.tm, w.pd, w.pt, w.cp, w.bd, w.flags, w.lets, w.steps, w.cycles, aOU (uP hb _) hd, w.banks, w.lRom, w.bRom, by show (((l.drop 8482).take m.ram.length).length : Int) = _; rw [e]; exact h.lRam, Fq (uP hb _) _, w.lWork, w.bWork, w.lHigh, w.bHigh⟩
omit h hl in
def aLi : (fG m l).cpu.r.Ok := aQj (m := m) hb
end
def aKA {m : Mm} {l : AB} (h : l.length ≠ (fM m).length) : 6 = sE m l := (ag h).symm
def aGr {m : Mm} {l : AB} (h : l.length = (fM m).length) (hd : lK (l.drop (8482 + m.ram.length)) ≠ 0) : 5 = sE m l := by
 unfold sE; rw [ae I, ae (fun h => hd h.1)]
def aMg {m : Mm} {l : AB} (h : l.length = (fM m).length) (hd : fM (fG m l) ≠ l) : 5 = sE m l := by
 unfold sE; rw [ae I, ae (fun h => hd h.2)]
def aCY {m : Mm} {l : AB} (h : l.length = (fM m).length) (hd : lK (l.drop (8482 + m.ram.length)) = 0) (he : fM (fG m l) = l) : 0 = sE m l := by
 unfold sE; rw [ae I, ag ⟨hd, he⟩]
def Xa {m : Mm} {l : AB} {e : Int} (h : e = sE m l) (h0 : e ≠ 0) : uN m l = m := by unfold uN; rw [ae I]
def aFi {m : Mm} {l : AB} (h : 0 = sE m l) : uN m l = { fG m l with acc := [] } := by unfold uN; rw [ag h.symm]; rfl
structure Ad.Kept (A A' : Ad) : Prop where
 mb : A'.mb = A.mb
 ub : A'.ub = A.ub
 ob : A'.ob = A.ob
 oc : A'.oc = A.oc
 sp : A'.sp = A.sp
 plan : A'.plan = A.plan
 tab : A'.tab = A.tab
def aDj {w : AI} {b off : Nat} {L l : AA} (h : aK w b 0 L) (hl : ∀ (j : Nat) (v : AH), l[j]? = some v → L[off + j]? = some v) : aK w b off l := fun j v hv => by
 have := h (off + j) v (hl j v hv)
 rwa [cg] at this
def chkH (rom : AB) : Nat → Int
 | 0 => 0
 | i + 1 => (chkH rom i - (rom.getD (308 + i) 0 + 1)) % 256
def zM (rom : AB) : Nat → Int
 | 0 => 0
 | i + 1 => (zM rom i + rom.getD i 0) % 65536
def Rs (rom : AB) : Int := (zM rom rom.length - rom.getD 334 0 - rom.getD 335 0) % 65536
def Tf (rom : AB) (i : Nat) : 0 ≤ chkH rom i ∧ chkH rom i < 256 := by cases i with
 | zero => exact ⟨iv 0, (by decide : (0 : Int) < 256)⟩
 | succ i => unfold chkH; omega
def S9 (rom : AB) (i : Nat) : 0 ≤ zM rom i ∧ zM rom i < 65536 := by cases i with
 | zero => exact ⟨iv 0, (by decide : (0 : Int) < 65536)⟩
 | succ i => unfold zM; omega
abbrev uT := Int × Bool × Bool
def lF : List (Int × uT) := [(0, 0, false, false), (8, 0, false, false), (9, 0, false, true), (1, 1, false, false), (2, 1, false, false), (3, 1, false, true), (5, 2, false, false), (6, 2, false, true), (15, 3, true, true), (16, 3, true, true), (17, 3, false, false), (18, 3, false, false), (19, 3, false, true),
 (25, 5, false, false), (26, 5, false, false), (27, 5, false, true), (28, 5, false, false), (29, 5, false, false), (30, 5, false, true)]
def cSrt (s : uT) : AA := [.int .i64 s.1, .bool s.2.1, .bool s.2.2]
def kV : List (Int × uT) → Nat → List hU
 | [], _ => []
 | s :: l, i => (s.1, .agg (cSrt s.2).toArray, i) :: kV l (i + 1)
def sortE : List hU := kV lF 0
def Fi (b : Int) : List (Int × uT) → Option uT
 | [] => none
 | s :: l => if b = s.1 then some s.2 else Fi b l
def sortH (b : Int) : Option uT := Fi b lF
def Z0 (o : Option uT) : Array AH := #[.agg (cSrt (o.getD (0, false, false))).toArray, .bool o.isSome]
def Z2 (b : Int) : ∀ (l : List (Int × uT)) (i j : Nat), Ll (.agg (cSrt (0, false, false)).toArray) (kI b (kV l i) j) = Z0 (Fi b l)
 | [], _, _ => rfl
 | s :: l, i, j => by
  unfold kV kI Fi
  by_cases h : b = s.1
  ·rw [ag h, ag h]; rfl
  ·rw [ae h, ae h]; exact Z2 b l (i + 1) (j + 1)
def sort_ask (b : Int) : Ll (.agg (cSrt (0, false, false)).toArray) (kI b sortE 0) = Z0 (sortH b) := Z2 b lF 0 0
def sizesH : AB := [0, 2048, 8192, 32768, 131072, 65536]
def aBa {b : Int} {s : uT} : ∀ {l : List (Int × uT)}, Fi b l = some s → (b, s) ∈ l
 | [], h => by cases h
 | x :: l, h => by
  unfold Fi at h
  split at h
  ·rename_i h1; cases h; rw [h1]; exact .head _
  ·exact .tail _ (aBa h)
def aPY {b : Int} {s : uT} (h : sortH b = some s) : 0 ≤ s.1 ∧ s.1 < 256 := by
 have key : ∀ x ∈ lF, 0 ≤ x.2.1 ∧ x.2.1 < 256 := by decide
 exact key _ (aBa h)
def chrH (c : Int) : UInt8 := if c < 32 ∨ 126 < c then 63 else c.toNat.toUInt8
def nameH : AB → List UInt8
 | [] => []
 | c :: l => if c = 0 then [] else chrH c :: nameH l
def xP (kind n : Int) : Int := if kind = 2 then 512 else if n = 0 then 0 else if n = 1 then 2048 else if n = 2 then 8192 else if n = 3 then 32768 else if n = 4 then 131072 else 65536
def errH (rom : AB) : Int :=
 if rom.length < 336 then 2 else if rom.getD 333 0 ≠ chkH rom 25 then 4 else match sortH (rom.getD 327 0) with
  | none => 5
  | some _ => if 8 < rom.getD 328 0 ∨ 6 ≤ rom.getD 329 0 then 7 else if (rom.length : Int) ≠ 32768 * 2 ^ (rom.getD 328 0).toNat then 6 else 0
def hdH (rom : AB) : Hd :=
 let s := (sortH (rom.getD 327 0)).getD (0, false, false)
 ⟨nameH ((rom.drop 308).take 15), s.1, s.2.1, s.2.2, 2 * 2 ^ (rom.getD 328 0).toNat, xP s.1 (rom.getD 329 0), rom.getD 334 0 * 256 + rom.getD 335 0 == Rs rom⟩
def zHd : Hd := ⟨[], 0, false, false, 0, 0, false⟩
def aFj {c n : Int} (hc : c = 2 ∨ c = 32768) (hn : 0 ≤ n ∧ n ≤ 8) : shl .i64 c n = c * 2 ^ n.toNat := by
 rcases (show n = 0 ∨ n = 1 ∨ n = 2 ∨ n = 3 ∨ n = 4 ∨ n = 5 ∨ n = 6 ∨ n = 7 ∨ n = 8 by omega) with rfl | rfl | rfl | rfl | rfl | rfl | rfl | rfl | rfl <;> rcases hc with rfl | rfl <;> decide
def aOd {l : AB} : ∀ {i : Nat}, (∀ j, j < i → l.getD j 0 ≠ 0) → i < l.length → l.getD i 0 = 0 → nameH l = (l.take i).map chrH := by
 induction l with
 | nil => intro i _ hi _; simp at hi
 | cons c l ih =>
  intro i hj hi h0
  cases i with
  | zero => have : c = 0 := h0; unfold nameH; rw [ag this]; rfl
  | succ i =>
   have h1 : c ≠ 0 := hj 0 I
   unfold nameH
   rw [ae h1, ih (i := i) (fun j hj' => hj (j + 1) I) (by simpa using hi) h0]
   rfl
def aLX {l : AB} (h : ∀ j, j < l.length → l.getD j 0 ≠ 0) : nameH l = l.map chrH := by
 induction l with
 | nil => rfl
 | cons c l ih =>
  have h1 : c ≠ 0 := h 0 aL
  unfold nameH
  rw [ae h1, ih fun j hj => h (j + 1) (by simpa using hj)]; rfl
def aOk {c : Int} (h : 0 ≤ c ∧ c < 256) (hp : ¬ (c < 32 ∨ 126 < c)) : ((chrH c).toNat : Int) = c := by
 unfold chrH
 rw [ae hp]
 have : c.toNat < 256 := by omega
 rw [show (c.toNat.toUInt8).toNat = c.toNat from by simp [Nat.toUInt8, UInt8.toNat_ofNat]; omega]
 omega
def txV (l : List UInt8) : AA := l.map fun c => .int .u8 c.toNat
def aJK {k n : Int} (hk : k ≠ 2) (hn : 0 ≤ n ∧ n < 6) : sizesH.getD n.toNat 0 = xP k n := by
 unfold xP
 rw [ae hk]
 rcases (show n = 0 ∨ n = 1 ∨ n = 2 ∨ n = 3 ∨ n = 4 ∨ n = 5 by omega) with rfl | rfl | rfl | rfl | rfl | rfl <;> rfl
def aG2 (kind n : Int) : 0 ≤ xP kind n ∧ xP kind n ≤ 131072 := by unfold xP; constructor <;> (repeat' split) <;> decide
structure Pl where
 at_ : Int
 by_ : Int
 many : Int
 kind : Int
 size : Int
 x : AH
def eJ (p : Pl) : AA := [.int .i64 p.at_, .int .i64 p.by_, .int .i64 p.many, .int .i64 p.kind, .int .i64 p.size, p.x]
def aCu (p : Pl) : (eJ p).length = 6 := rfl
def aEm (G : aF) (p : Pl) (q : Pq) : Prop := p.at_ = q.at_ ∧ p.by_ = q.by_ ∧ p.many = q.many ∧ p.kind = q.kind ∧ p.size = q.size ∧ match q.x with
 | none => p.x = .slice none 0 0
 | some xs => ∃ b, p.x = .slice (Q_ b) xs.length xs.length ∧ VV.RowsIn G b 0 (xs.map (Value.int .i64))
def Gt (G : aF) : List Pl → List Pq → Prop
 | [], [] => True
 | p :: ps, q :: qs => aEm G p q ∧ Gt G ps qs
 | _, _ => False
def Gt.get {G : aF} : ∀ {ps : List Pl} {qs : List Pq} {k : Nat} {q : Pq}, Gt G ps qs → qs[k]? = some q → ∃ p, ps[k]? = some p ∧ aEm G p q
 | [], [], _, _, _, h => by simp at h
 | p :: ps, q :: qs, 0, _, h, h1 => by
  simp only [fj, Option.some.injEq] at h1
  subst h1
  exact ⟨p, U, h.1⟩
 | p :: ps, q :: qs, k + 1, _, h, h1 => by
  rw [eq] at h1
  rw [eq]
  exact Gt.get h.2 h1
 | _ :: _, [], _, _, h, _ => h.elim
 | [], _ :: _, _, _, h, _ => h.elim
def Di {G : aF} {b : Nat} {xs : AA} {T : AJ} (h : (b, J xs T) ∈ G) : VV.RowsIn G b 0 xs := fun w hw => aK.all (w := w) (b := b) (hw _ h)
def fS (b4 b5 b6 b10 b48 b59 b65 : Nat) : List Pl := [⟨0, 1, 1, 1, 1, .slice none 0 0⟩, ⟨8, 1, 1, 40, 3, .slice none 0 0⟩, ⟨16, 1, 1, 2, 2, .slice none 0 0⟩, ⟨24, 1, 1, 23, 2, .slice (Q_ b10) 1 1⟩, ⟨32, 8, 4, 23, 2, .slice (Q_ b5) 4 4⟩, ⟨1, 16, 4, 9, 3, .slice (Q_ b5) 4 4⟩, ⟨9, 16, 4, 16, 1, .slice (Q_ b5) 4 4⟩, ⟨2, 16, 4, 33, 1, .slice (Q_ b5) 4 4⟩, ⟨10, 16, 4, 32, 1, .slice (Q_ b5) 4 4⟩, ⟨3, 16, 4, 14, 1, .slice (Q_ b5) 4 4⟩, ⟨11, 16, 4, 15, 1, .slice (Q_ b5) 4 4⟩, ⟨4, 8, 8, 12, 1, .slice (Q_ b4) 8 8⟩, ⟨5, 8, 8, 13, 1, .slice (Q_ b4) 8 8⟩, ⟨6, 8, 8, 8, 2, .slice (Q_ b4) 8 8⟩, ⟨7, 8, 4, 18, 1, .slice (Q_ b5) 4 4⟩, ⟨39, 1, 1, 19, 1, .slice none 0 0⟩, ⟨47, 1, 1, 20, 1, .slice none 0 0⟩, ⟨55, 1, 1, 21, 1, .slice none 0 0⟩, ⟨63, 1, 1, 22, 1, .slice none 0 0⟩, ⟨192, 8, 4, 26, 1, .slice (Q_ b5) 4 4⟩, ⟨224, 1, 1, 35, 2, .slice none 0 0⟩, ⟨232, 1, 1, 41, 2, .slice none 0 0⟩, ⟨240, 1, 1, 34, 2, .slice none 0 0⟩, ⟨248, 1, 1, 42, 2, .slice none 0 0⟩, ⟨193, 16, 4, 31, 1, .slice (Q_ b6) 4 4⟩, ⟨197, 16, 4, 30, 1, .slice (Q_ b6) 4 4⟩, ⟨201, 1, 1, 26, 1, .slice (Q_ b48) 1 1⟩, ⟨217, 1, 1, 27, 1, .slice none 0 0⟩, ⟨233, 1, 1, 29, 1, .slice none 0 0⟩, ⟨249, 1, 1, 43, 1, .slice none 0 0⟩, ⟨194, 8, 4, 24, 3, .slice (Q_ b5) 4 4⟩, ⟨226, 1, 1, 37, 1, .slice none 0 0⟩, ⟨234, 1, 1, 39, 3, .slice none 0 0⟩, ⟨242, 1, 1, 36, 1, .slice none 0 0⟩, ⟨250, 1, 1, 38, 3, .slice none 0 0⟩, ⟨195, 1, 1, 24, 3, .slice (Q_ b59) 1 1⟩, ⟨243, 1, 1, 5, 1, .slice none 0 0⟩, ⟨251, 1, 1, 6, 1, .slice none 0 0⟩, ⟨196, 8, 4, 25, 3, .slice (Q_ b5) 4 4⟩, ⟨205, 1, 1, 25, 3, .slice (Q_ b65) 1 1⟩, ⟨198, 8, 8, 11, 2, .slice (Q_ b4) 8 8⟩]
def aPp {G : aF} {b4 b5 b6 b10 b48 b59 b65 : Nat} (r4 : VV.RowsIn G b4 0 (([0, 1, 2, 3, 4, 5, 6, 7] : AB).map (Value.int .i64))) (r5 : VV.RowsIn G b5 0 (([0, 1, 2, 3] : AB).map (Value.int .i64)))
  (r6 : VV.RowsIn G b6 0 (([0, 1, 2, 4] : AB).map (Value.int .i64))) (r10 : VV.RowsIn G b10 0 (([4] : AB).map (Value.int .i64))) (r48 : VV.RowsIn G b48 0 (([4] : AB).map (Value.int .i64)))
  (r59 : VV.RowsIn G b59 0 (([4] : AB).map (Value.int .i64))) (r65 : VV.RowsIn G b65 0 (([4] : AB).map (Value.int .i64))) : Gt G (fS b4 b5 b6 b10 b48 b59 b65) PL :=
 ⟨⟨rfl, rfl, rfl, rfl, rfl, rfl⟩, ⟨rfl, rfl, rfl, rfl, rfl, rfl⟩, ⟨rfl, rfl, rfl, rfl, rfl, rfl⟩, ⟨rfl, rfl, rfl, rfl, rfl, b10, rfl, r10⟩, ⟨rfl, rfl, rfl, rfl, rfl, b5, rfl, r5⟩, ⟨rfl, rfl, rfl, rfl, rfl, b5, rfl, r5⟩, ⟨rfl, rfl, rfl, rfl, rfl, b5, rfl, r5⟩, ⟨rfl, rfl, rfl, rfl, rfl, b5, rfl, r5⟩, ⟨rfl, rfl, rfl, rfl, rfl, b5, rfl, r5⟩, ⟨rfl, rfl, rfl, rfl, rfl, b5, rfl, r5⟩, ⟨rfl, rfl, rfl, rfl, rfl, b5, rfl, r5⟩, ⟨rfl, rfl, rfl, rfl, rfl, b4, rfl, r4⟩, ⟨rfl, rfl, rfl, rfl, rfl, b4, rfl, r4⟩, ⟨rfl, rfl, rfl, rfl, rfl, b4, rfl, r4⟩, ⟨rfl, rfl, rfl, rfl, rfl, b5, rfl, r5⟩, ⟨rfl, rfl, rfl, rfl, rfl, rfl⟩, ⟨rfl, rfl, rfl, rfl, rfl, rfl⟩, ⟨rfl, rfl, rfl, rfl, rfl, rfl⟩, ⟨rfl, rfl, rfl, rfl, rfl, rfl⟩, ⟨rfl, rfl, rfl, rfl, rfl, b5, rfl, r5⟩, ⟨rfl, rfl, rfl, rfl, rfl, rfl⟩, ⟨rfl, rfl, rfl, rfl, rfl, rfl⟩, ⟨rfl, rfl, rfl, rfl, rfl, rfl⟩, ⟨rfl, rfl, rfl, rfl, rfl, rfl⟩, ⟨rfl, rfl, rfl, rfl, rfl, b6, rfl, r6⟩, ⟨rfl, rfl, rfl, rfl, rfl, b6, rfl, r6⟩, ⟨rfl, rfl, rfl, rfl, rfl, b48, rfl, r48⟩, ⟨rfl, rfl, rfl, rfl, rfl, rfl⟩, ⟨rfl, rfl, rfl, rfl, rfl, rfl⟩, ⟨rfl, rfl, rfl, rfl, rfl, rfl⟩, ⟨rfl, rfl, rfl, rfl, rfl, b5, rfl, r5⟩, ⟨rfl, rfl, rfl, rfl, rfl, rfl⟩, ⟨rfl, rfl, rfl, rfl, rfl, rfl⟩, ⟨rfl, rfl, rfl, rfl, rfl, rfl⟩, ⟨rfl, rfl, rfl, rfl, rfl, rfl⟩, ⟨rfl, rfl, rfl, rfl, rfl, b59, rfl, r59⟩, ⟨rfl, rfl, rfl, rfl, rfl, rfl⟩, ⟨rfl, rfl, rfl, rfl, rfl, rfl⟩, ⟨rfl, rfl, rfl, rfl, rfl, b5, rfl, r5⟩, ⟨rfl, rfl, rfl, rfl, rfl, b65, rfl, r65⟩, ⟨rfl, rfl, rfl, rfl, rfl, b4, rfl, r4⟩, trivial⟩
def aOG (b4 b5 b6 b10 b48 b59 b65 : Nat) : (fS b4 b5 b6 b10 b48 b59 b65).length = 41 := rfl
def aF4 {q : Pq} (h : q.x = none) (i : Nat) : Aa q i = ⟨q.kind, 0, 0, q.size, 0⟩ := by unfold Aa; rw [h]
def aQC {q : Pq} {x : AB} (h : q.x = some x) (i : Nat) : Aa q i = ⟨q.kind, x.getD i 0, 0, q.size, 0⟩ := by unfold Aa; rw [h]
def aJG (m : Nat) (h : m < 4) : ([.int .i64 17, .int .i64 44, .int .i64 45, .int .i64 46] : AA)[m]? = some (.int .i64 (([17, 44, 45, 46] : AB).getD m 0)) := by
 match m, h with
 | 0, _ => rfl
 | 1, _ => rfl
 | 2, _ => rfl
 | 3, _ => rfl
def aP1 (m : Nat) (h : m < 4) : ([.int .i64 17, .int .i64 44, .int .i64 45, .int .i64 46] : AA)[0 + m * 1]? = some (.int .i64 (([17, 44, 45, 46] : AB).getD m 0)) := by
 rw [cg, fq]; exact aJG m h
def M8 {i k : Nat} (h : k ≤ 64) : shr .i64 (i : Int) (k : Int) = ((i / 2 ^ k : Nat) : Int) := by
 unfold shr
 have e1 : min (k : Int).toNat IntKind.i64.bits = k := by
  have : IntKind.i64.bits = 64 := rfl
  rw [this]; omega
 rw [e1, et _ (j4 (gp M))]
 simp
def aD3 {m : Nat} (h : m < 1000000) : aQ .i64 (m : Int) 7 = ((m % 8 : Nat) : Int) := by
 unfold aQ
 have h1 : (BitVec.ofInt IntKind.i64.bits (m : Int) &&& BitVec.ofInt IntKind.i64.bits 7).toNat = m % 8 := by
  have e1 : BitVec.ofInt IntKind.i64.bits (m : Int) = BitVec.ofNat 64 m := by simp [IntKind.bits]
  have e2 : BitVec.ofInt IntKind.i64.bits 7 = BitVec.ofNat 64 7 := rfl
  rw [e1, e2]
  have e3 : (BitVec.ofNat 64 m &&& BitVec.ofNat 64 7).toNat = (m % 18446744073709551616) &&& 7 := by simp
  have e4 : (m % 18446744073709551616) &&& 7 = m % 18446744073709551616 % 8 := fw _ 3
  exact e3.trans (by rw [e4]; omega)
 rw [h1, bY I I]
set_option maxHeartbeats 4000000 in
def aK8 (w : AI) :
  aG prog 192 [] w [] (fun v H => ∃ b L G, v = .slice (Q_ b) 41 41 ∧ H = (b, J (aN eJ L) 337) :: G ∧ L.length = 41 ∧ Gt G L PL) := by
 refine aT func192 ?_
 refine dO ?_
 refine RX (eQ (z := [.int .i64 0]) (l := [.int .i64 0, .int .i64 1, .int .i64 2, .int .i64 3, .int .i64 4, .int .i64 5, .int .i64 6, .int .i64 7]) (ps := [(0, .int .i64 0), (1, .int .i64 1), (2, .int .i64 2), (3, .int .i64 3), (4, .int .i64 4), (5, .int .i64 5), (6, .int .i64 6), (7, .int .i64 7)]) U U U U aO aO) U ?_
 rintro _ _ ⟨b4, rfl, rfl⟩
 refine eK ?_
 refine RX (eQ (z := [.int .i64 0]) (l := [.int .i64 0, .int .i64 1, .int .i64 2, .int .i64 3]) (ps := [(0, .int .i64 0), (1, .int .i64 1), (2, .int .i64 2), (3, .int .i64 3)]) U U U U aO aO) U ?_
 rintro _ _ ⟨b5, rfl, rfl⟩
 refine RX (eQ (z := [.int .i64 0]) (l := [.int .i64 0, .int .i64 1, .int .i64 2, .int .i64 4]) (ps := [(0, .int .i64 0), (1, .int .i64 1), (2, .int .i64 2), (3, .int .i64 4)]) U U U U aO aO) U ?_
 rintro _ _ ⟨b6, rfl, rfl⟩
 refine cY ?_
 refine RS ?_
 refine RS ?_
 refine RS ?_
 refine RX (eQ U U U U U U) U ?_
 rintro _ _ ⟨b10, rfl, rfl⟩
 refine RS ?_
 refine bG ?_
 refine RS ?_
 refine bG ?_
 refine RS ?_
 refine bG ?_
 refine RS ?_
 refine bG ?_
 refine RS ?_
 refine bG ?_
 refine RS ?_
 refine bG ?_
 refine RS ?_
 refine bG ?_
 refine RS ?_
 refine bG ?_
 refine RS ?_
 refine bG ?_
 refine RS ?_
 refine bG ?_
 refine RS ?_
 refine bG ?_
 refine RS ?_
 refine RS ?_
 refine RS ?_
 refine RS ?_
 refine RS ?_
 refine bG ?_
 refine RS ?_
 refine RS ?_
 refine RS ?_
 refine RS ?_
 refine RS ?_
 refine bG ?_
 refine RS ?_
 refine bG ?_
 refine RS ?_
 refine RX (eQ U U U U U U) U ?_
 rintro _ _ ⟨b48, rfl, rfl⟩
 refine RS ?_
 refine RS ?_
 refine RS ?_
 refine RS ?_
 refine bG ?_
 refine RS ?_
 refine RS ?_
 refine RS ?_
 refine RS ?_
 refine RS ?_
 refine RX (eQ U U U U U U) U ?_
 rintro _ _ ⟨b59, rfl, rfl⟩
 refine RS ?_
 refine RS ?_
 refine RS ?_
 refine bG ?_
 refine RS ?_
 refine RX (eQ U U U U U U) U ?_
 rintro _ _ ⟨b65, rfl, rfl⟩
 refine RS ?_
 refine bG ?_
 refine RS ?_
 refine RX (eQ (z := eJ ⟨0, 0, 0, 0, 0, .slice none 0 0⟩) (l := aN eJ (fS b4 b5 b6 b10 b48 b59 b65)) (ps := [(0, .agg (eJ ((fS b4 b5 b6 b10 b48 b59 b65).getD 0 ⟨0, 0, 0, 0, 0, undef⟩)).toArray), (1, .agg (eJ ((fS b4 b5 b6 b10 b48 b59 b65).getD 1 ⟨0, 0, 0, 0, 0, undef⟩)).toArray), (2, .agg (eJ ((fS b4 b5 b6 b10 b48 b59 b65).getD 2 ⟨0, 0, 0, 0, 0, undef⟩)).toArray), (3, .agg (eJ ((fS b4 b5 b6 b10 b48 b59 b65).getD 3 ⟨0, 0, 0, 0, 0, undef⟩)).toArray), (4, .agg (eJ ((fS b4 b5 b6 b10 b48 b59 b65).getD 4 ⟨0, 0, 0, 0, 0, undef⟩)).toArray), (5, .agg (eJ ((fS b4 b5 b6 b10 b48 b59 b65).getD 5 ⟨0, 0, 0, 0, 0, undef⟩)).toArray), (6, .agg (eJ ((fS b4 b5 b6 b10 b48 b59 b65).getD 6 ⟨0, 0, 0, 0, 0, undef⟩)).toArray), (7, .agg (eJ ((fS b4 b5 b6 b10 b48 b59 b65).getD 7 ⟨0, 0, 0, 0, 0, undef⟩)).toArray), (8, .agg (eJ ((fS b4 b5 b6 b10 b48 b59 b65).getD 8 ⟨0, 0, 0, 0, 0, undef⟩)).toArray), (9, .agg (eJ ((fS b4 b5 b6 b10 b48 b59 b65).getD 9 ⟨0, 0, 0, 0, 0, undef⟩)).toArray), (10, .agg (eJ ((fS b4 b5 b6 b10 b48 b59 b65).getD 10 ⟨0, 0, 0, 0, 0, undef⟩)).toArray), (11, .agg (eJ ((fS b4 b5 b6 b10 b48 b59 b65).getD 11 ⟨0, 0, 0, 0, 0, undef⟩)).toArray), (12, .agg (eJ ((fS b4 b5 b6 b10 b48 b59 b65).getD 12 ⟨0, 0, 0, 0, 0, undef⟩)).toArray), (13, .agg (eJ ((fS b4 b5 b6 b10 b48 b59 b65).getD 13 ⟨0, 0, 0, 0, 0, undef⟩)).toArray), (14, .agg (eJ ((fS b4 b5 b6 b10 b48 b59 b65).getD 14 ⟨0, 0, 0, 0, 0, undef⟩)).toArray), (15, .agg (eJ ((fS b4 b5 b6 b10 b48 b59 b65).getD 15 ⟨0, 0, 0, 0, 0, undef⟩)).toArray), (16, .agg (eJ ((fS b4 b5 b6 b10 b48 b59 b65).getD 16 ⟨0, 0, 0, 0, 0, undef⟩)).toArray), (17, .agg (eJ ((fS b4 b5 b6 b10 b48 b59 b65).getD 17 ⟨0, 0, 0, 0, 0, undef⟩)).toArray), (18, .agg (eJ ((fS b4 b5 b6 b10 b48 b59 b65).getD 18 ⟨0, 0, 0, 0, 0, undef⟩)).toArray), (19, .agg (eJ ((fS b4 b5 b6 b10 b48 b59 b65).getD 19 ⟨0, 0, 0, 0, 0, undef⟩)).toArray), (20, .agg (eJ ((fS b4 b5 b6 b10 b48 b59 b65).getD 20 ⟨0, 0, 0, 0, 0, undef⟩)).toArray), (21, .agg (eJ ((fS b4 b5 b6 b10 b48 b59 b65).getD 21 ⟨0, 0, 0, 0, 0, undef⟩)).toArray), (22, .agg (eJ ((fS b4 b5 b6 b10 b48 b59 b65).getD 22 ⟨0, 0, 0, 0, 0, undef⟩)).toArray), (23, .agg (eJ ((fS b4 b5 b6 b10 b48 b59 b65).getD 23 ⟨0, 0, 0, 0, 0, undef⟩)).toArray), (24, .agg (eJ ((fS b4 b5 b6 b10 b48 b59 b65).getD 24 ⟨0, 0, 0, 0, 0, undef⟩)).toArray), (25, .agg (eJ ((fS b4 b5 b6 b10 b48 b59 b65).getD 25 ⟨0, 0, 0, 0, 0, undef⟩)).toArray), (26, .agg (eJ ((fS b4 b5 b6 b10 b48 b59 b65).getD 26 ⟨0, 0, 0, 0, 0, undef⟩)).toArray), (27, .agg (eJ ((fS b4 b5 b6 b10 b48 b59 b65).getD 27 ⟨0, 0, 0, 0, 0, undef⟩)).toArray), (28, .agg (eJ ((fS b4 b5 b6 b10 b48 b59 b65).getD 28 ⟨0, 0, 0, 0, 0, undef⟩)).toArray), (29, .agg (eJ ((fS b4 b5 b6 b10 b48 b59 b65).getD 29 ⟨0, 0, 0, 0, 0, undef⟩)).toArray), (30, .agg (eJ ((fS b4 b5 b6 b10 b48 b59 b65).getD 30 ⟨0, 0, 0, 0, 0, undef⟩)).toArray), (31, .agg (eJ ((fS b4 b5 b6 b10 b48 b59 b65).getD 31 ⟨0, 0, 0, 0, 0, undef⟩)).toArray), (32, .agg (eJ ((fS b4 b5 b6 b10 b48 b59 b65).getD 32 ⟨0, 0, 0, 0, 0, undef⟩)).toArray), (33, .agg (eJ ((fS b4 b5 b6 b10 b48 b59 b65).getD 33 ⟨0, 0, 0, 0, 0, undef⟩)).toArray), (34, .agg (eJ ((fS b4 b5 b6 b10 b48 b59 b65).getD 34 ⟨0, 0, 0, 0, 0, undef⟩)).toArray), (35, .agg (eJ ((fS b4 b5 b6 b10 b48 b59 b65).getD 35 ⟨0, 0, 0, 0, 0, undef⟩)).toArray), (36, .agg (eJ ((fS b4 b5 b6 b10 b48 b59 b65).getD 36 ⟨0, 0, 0, 0, 0, undef⟩)).toArray), (37, .agg (eJ ((fS b4 b5 b6 b10 b48 b59 b65).getD 37 ⟨0, 0, 0, 0, 0, undef⟩)).toArray), (38, .agg (eJ ((fS b4 b5 b6 b10 b48 b59 b65).getD 38 ⟨0, 0, 0, 0, 0, undef⟩)).toArray), (39, .agg (eJ ((fS b4 b5 b6 b10 b48 b59 b65).getD 39 ⟨0, 0, 0, 0, 0, undef⟩)).toArray), (40, .agg (eJ ((fS b4 b5 b6 b10 b48 b59 b65).getD 40 ⟨0, 0, 0, 0, 0, undef⟩)).toArray)]) U tV U U aO aO) U ?_
 rintro _ _ ⟨b69, rfl, rfl⟩
 refine bU ?_
 exact EV U aJ ⟨_, _, _, U, U, aOG .., aPp (Di aE) (Di aE) (Di aE) (Di aE) (Di aE) (Di aE) (Di aE)⟩
def aND {i : Nat} (h : i / 64 = 1) : p1 i = ⟨7, ((i / 8 % 8 : Nat) : Int), ((i % 8 : Nat) : Int), 1, 0⟩ := by unfold p1; rw [ag h]
def aNy {i : Nat} (h : i / 64 = 2) : p1 i = ⟨10, ((i / 8 % 8 : Nat) : Int), ((i % 8 : Nat) : Int), 1, 0⟩ := by unfold p1; rw [ae I, ag h]
def aJL {i : Nat} (h : ¬ i / 64 = 1) (h2 : ¬ i / 64 = 2) : p1 i = ⟨4, 0, 0, 1, 0⟩ := by unfold p1; rw [ae h, ae h2]
def aIk (b : Nat) (u1 u2 u3 : AH) (P B : List cJ) (hP0 : P.length = 256) (hB0 : B.length = 256) (w : AI) (hb : w.heap[b]? = some (J (jW u1 u2 u3 P B) 98)) :
  aG prog 151 [P_ b] w [b] (fun v H => v = .tuple #[] ∧ H = [(b, J (jW u1 u2 u3 sR tabB) 98)]) := by
 refine yI func151 U U U (St.lent1 hb) ?_
 refine dO ?_
 refine dV (σ := Nat × List cJ × List cJ) [2, 3, 4, 10, 11, 12, 13, 14, 15, 16, 17, 18, 19, 20, 21, 22, 23, 24, 25, 26, 27, 28, 29, 30, 31, 32, 33, 34, 35, 36, 37, 38, 39, 40, 41, 42, 43, 44, 45, 46, 47, 48, 49, 50, 51, 52, 53, 54, 55, 56, 57, 58, 59] (fun s => [(10, .int .i64 s.1)]) (fun s => [(b, J (jW u1 u2 u3 s.2.1 s.2.2) 98)]) (fun s => s.1 ≤ 256 ∧ xT p1 s.2.1 s.1 ∧ xT b1 s.2.2 s.1) (fun s => 256 - s.1) (0, P, B) ?_ ?_ ?_ ?_
 ·exact ⟨av _, .start _ hP0, .start _ hB0⟩
 ·exact .cons U .nil
 ·exact fun _ h => h
 rintro ⟨i, P, B⟩ y1 ⟨hi, hF, hG⟩
 dsimp only at hi hF hG ⊢
 refine cY ?_
 refine KC (fun h1 h1n => ?_) (fun h1 h1n => ?_)
 ·refine bZ ?_
  have hi' : i < 256 := by (try simp only [al, ah, ci, aq, cr, ar, ne_eq] at *); omega
  have hP := hF.len
  have hB := hG.len
  refine bU ?_
  refine RS ?_
  refine aU ?_
  refine RY (iP (s := 5) i U U U U aM) U (W (hQ (vs := cO ⟨4, 0, 0, 1, 0⟩) 0 U U U U U U Ei) U ?_)
  simp only [ak, bf]
  rw [show 0 + 3 + i * 5 = 3 + i * 5 by omega, Cg hP hi']
  refine aU ?_
  have hP : (P.set i ⟨4, 0, 0, 1, 0⟩).length = 256 := by rw [cy]; exact hF.len
  refine aU ?_
  refine RW (v := (.int .i64 ((i / 8 : Nat) : Int))) (iV U U M) U (aD _ (M8 (k := 3) M)) (RW (v := (.int .i64 ((i / 8 % 8 : Nat) : Int))) U U (aD _ (aD3 I)) (bG ?_))
  refine RW (v := (.int .i64 ((i % 8 : Nat) : Int))) U U (aD _ (aD3 I)) (eK ?_)
  refine DR [] (bW [0, 2, 6, 8, 14, 16, 20, 22, 5, 10, 13, 18, 24, 27]) ?_
  refine bU ?_
  refine DW (v := (.int .i64 ((i / 64 : Nat) : Int))) U (iV U U M) U (aD _ (M8 (k := 6) M)) (eK ?_)
  refine DX U (eQ (z := [.int .i64 0]) (l := [.int .i64 17, .int .i64 44, .int .i64 45, .int .i64 46]) (ps := [(0, .int .i64 17), (1, .int .i64 44), (2, .int .i64 45), (3, .int .i64 46)]) U U U U aO aO) U aW ?_
  rintro _ _ ⟨b26, rfl, rfl⟩
  refine DY U (fO (s := 1) (i / 64) U U U U I) U (DZ U (aX U U (bN (.head _) (aP1 (i / 64) I))) U aW (DY U (rV U U U U) U (DY U (iP (s := 5) i U U U U aM) U ?_)))
  refine DZ U (hQ (vs := cO (b1 i)) 1 U U U U U U Ei) U aW ?_
  simp only [ak, bf]
  rw [show 0 + 1283 + i * 5 = 1283 + i * 5 by omega, aKy hP hB hi']
  refine eK ?_
  refine RW (v := (.int .i64 ((i / 64 : Nat) : Int))) (iV U U M) U (aD _ (M8 (k := 6) M)) (gF ?_)
  refine KC (fun h2 h2n => ?_) (fun h2 h2n => ?_)
  ·have hB : (B.set i (b1 i)).length = 256 := by rw [cy]; exact hG.len
   refine cY ?_
   refine RS ?_
   refine aU ?_
   refine RY (iP (s := 5) i U U U U aM) U (W (hQ (vs := cO ⟨7, ((i / 8 % 8 : Nat) : Int), ((i % 8 : Nat) : Int), 1, 0⟩) 1 U U U U U U Ei) U ?_)
   simp only [ak, bf]
   rw [show 0 + 3 + i * 5 = 3 + i * 5 by omega, Cg hP hi', List.set_set]
   refine aU ?_
   refine RW (v := (.int .i64 ((i + 1 : Nat) : Int))) U U (aD _ (eX I)) (aU ?_)
   rw [← aND (i := i) aM]
   exact ⟨(i + 1, _, _), ⟨gS, hF.step hi', hG.step hi'⟩, gS, .cons U .nil, bJ, fun _ h => h.sub (bj _ _)⟩
  refine cY ?_
  refine KC (fun h3 h3n => ?_) (fun h3 h3n => ?_)
  ·have hB : (B.set i (b1 i)).length = 256 := by rw [cy]; exact hG.len
   refine cY ?_
   refine RS ?_
   refine aU ?_
   refine RY (iP (s := 5) i U U U U aM) U (W (hQ (vs := cO ⟨10, ((i / 8 % 8 : Nat) : Int), ((i % 8 : Nat) : Int), 1, 0⟩) 1 U U U U U U Ei) U ?_)
   simp only [ak, bf]
   rw [show 0 + 3 + i * 5 = 3 + i * 5 by omega, Cg hP hi', List.set_set]
   refine aU ?_
   refine RW (v := (.int .i64 ((i + 1 : Nat) : Int))) U U (aD _ (eX I)) (aU ?_)
   rw [← aNy (i := i) aM]
   exact ⟨(i + 1, _, _), ⟨gS, hF.step hi', hG.step hi'⟩, gS, .cons U .nil, bJ, fun _ h => h.sub (bj _ _)⟩
  refine aU ?_
  refine RW (v := (.int .i64 ((i + 1 : Nat) : Int))) U U (aD _ (eX I)) (aU ?_)
  rw [← aJL (i := i) aM aM]
  exact ⟨(i + 1, _, _), ⟨gS, hF.step hi', hG.step hi'⟩, gS, .cons U .nil, bJ, fun _ h => h.sub (bj _ _)⟩
 refine aU ?_
 obtain rfl : 256 = i := by (try simp only [al, ah, ci, aq, cr, ar, ne_eq] at *); omega
 obtain rfl := hF.all
 obtain rfl := hG.all
 have hP := hF.len
 have hB := hG.len
 refine aU ?_
 refine RS ?_
 refine aU ?_
 refine RY (iP (s := 5) 118 U U U U M) U (W (hQ (vs := cO ⟨3, 0, 0, 1, 0⟩) 0 U U U U U U Ei) U ?_)
 simp only [ak]
 rw [show 0 + 3 + 118 * 5 = 3 + 118 * 5 from rfl, Cg hP M]
 refine eK ?_
 refine RX (cQ K_ U (aS aK8)) U ?_
 rintro _ _ ⟨_, ⟨b65, L, GL, rfl, rfl, hLl, hok⟩, rfl⟩
 refine cZ (H' := (b, J (jW u1 u2 u3 uJ tabB) 98) :: ((b65, J (aN eJ L) 337) :: GL)) (fun _ h => St.fl [((b65, J (aN eJ L) 337) :: GL), [_]] [1, 0] U h) ?_
 refine RY fY U (bU ?_)
 refine dV (σ := Nat) [6, 7, 8, 67, 68, 69, 70, 71, 72, 73, 74, 75, 76, 77, 78, 79, 80, 81, 82, 83, 84, 85, 86, 87, 88, 89, 90, 91, 92, 93, 94, 95, 96, 97, 98, 99, 100, 101, 102, 103] (fun k => [(67, .int .i64 k)]) (fun k => (b, J (jW u1 u2 u3 ((PL.take k).foldl putQ uJ) tabB) 98) :: ((b65, J (aN eJ L) 337) :: GL)) (fun k => k ≤ 41) (fun k => 41 - k) 0 ?_ ?_ ?_ ?_
 ·exact av _
 ·exact .cons U .nil
 ·exact fun _ h => h
 intro k y14 hk
 refine cY ?_
 refine KC (fun h4 h4n => ?_) (fun h4 h4n => ?_)
 ·refine eK ?_
  obtain ⟨q, hq⟩ : ∃ q, PL[k]? = some q := ⟨_, Pz (by rw [aLt]; (try simp only [al, ah, ci, aq, cr, ar, ne_eq] at *); omega)⟩
  obtain ⟨⟨pa, pb, pm, pk, ps, px⟩, hp, e1, e2, e3, e4, e5, e6⟩ := hok.get hq
  dsimp only at e1 e2 e3 e4 e5 e6
  subst e1 e2 e3 e4 e5
  obtain ⟨hq1, hq2, hq3, hq4⟩ := aF1 (aLO hq)
  have hP2 : ((PL.take k).foldl putQ uJ).length = 256 := by rw [aBK, aEs]
  have e7 : (q.x = none ∧ px = .slice none 0 0) ∨ ∃ xs bx, q.x = some xs ∧ px = .slice (Q_ bx) xs.length xs.length ∧ VV.RowsIn GL bx 0 (xs.map (.int .i64)) := by
   cases hx : q.x with
   | none => rw [hx] at e6; exact .inl ⟨rfl, e6⟩
   | some xs => rw [hx] at e6; obtain ⟨bx, h1, h2⟩ := e6; exact .inr ⟨xs, bx, rfl, h1, h2⟩
  rcases e7 with ⟨hx, rfl⟩ | ⟨xs, bx, hx, rfl, hrx⟩
  ·refine bG ?_
   refine RY (fO (s := 6) k U U U U aM) U (W (bX U U U (fun w hw => (aH (.tail _ (.head _)) w hw).nth' aCu hp)) U (RX (gG U) U ?_))
   rintro _ _ ⟨b6, rfl, rfl⟩
   refine W iB U (bA ?_)
   refine dV (σ := Nat) [7, 8, 73, 74, 75, 76, 77, 78, 79, 80, 81, 82, 83, 84, 85, 86, 87, 88, 89, 90, 91, 92, 93, 94, 95, 96, 97, 98, 99, 100, 101, 102] (fun i => [(73, .int .i64 i)]) (fun i => (b, J (jW u1 u2 u3 (wO q ((PL.take k).foldl putQ uJ) i) tabB) 98) :: (b6, J (eJ ⟨q.at_, q.by_, q.many, q.kind, q.size, .slice none 0 0⟩) 337) :: ((b65, J (aN eJ L) 337) :: GL)) (fun i => i ≤ q.many) (fun i => q.many - i) 0 ?_ ?_ ?_ ?_
   ·exact av _
   ·exact .cons U .nil
   ·exact fun _ h => by simp only [aDh]; exact St.fl [[_], [_], ((b65, J (aN eJ L) 337) :: GL)] [1, 0, 2] rfl h
   intro i y17 hi
   refine cY ?_
   refine KC (fun h5 h5n => ?_) (fun h5 h5n => ?_)
   ·refine jN ?_
    refine RS ?_
    refine RX (gG U) U ?_
    rintro _ _ ⟨b8, rfl, rfl⟩
    refine W iB U (dO ?_)
    refine gO false U U U U ?_
    refine bU ?_
    have hP : (wO q ((PL.take k).foldl putQ uJ) i).length = 256 := by rw [Yq]; exact hP2
    refine DR [3, 4, 5, 6, 8, 9, 10] (bW [0, 2, 4, 6, 8, 10, 12, 14, 16, 18, 20, 22, 25]) ?_
    refine dO ?_
    refine DW (v := (.int .i64 ((q.by_ * i : Nat) : Int))) U U U (aD _ U0) (DW (v := (.int .i64 ((q.at_ + q.by_ * i : Nat) : Int))) U U U (aD _ aBI) (gL U U U U Le U U ?_))
    refine aU ?_
    refine DY U (iP (s := 5) (q.at_ + q.by_ * i) U U U U (hq1 i aM)) U (DZ U (hQ (vs := cO (Aa q i)) 1 U U (by rw [aF4 hx]; rfl) U U U aD5) U aW ?_)
    simp only [ak, bf]
    rw [show 0 + 3 + (q.at_ + q.by_ * i) * 5 = 3 + (q.at_ + q.by_ * i) * 5 by omega, Cg hP (hq1 i aM), ← A8]
    refine aU ?_
    refine RW (v := (.int .i64 ((i + 1 : Nat) : Int))) U U (aD _ (eX I)) (aU ?_)
    exact ⟨i + 1, gS, gS, .cons U .nil, bJ, fun _ h => h.sub (bj _ _)⟩
   refine aU ?_
   refine RW (v := (.int .i64 ((k + 1 : Nat) : Int))) U U (aD _ (eX I)) (aU ?_)
   obtain rfl : q.many = i := by (try simp only [al, ah, ci, aq, cr, ar, ne_eq] at *); omega
   exact ⟨k + 1, gS, gS, .cons U .nil, bJ, fun _ h => aCP⟩
  refine bG ?_
  refine RY (fO (s := 6) k U U U U aM) U (W (bX U U U (fun w hw => (aH (.tail _ (.head _)) w hw).nth' aCu hp)) U (RX (gG U) U ?_))
  rintro _ _ ⟨b6, rfl, rfl⟩
  refine W iB U (bA ?_)
  refine dV (σ := Nat) [7, 8, 73, 74, 75, 76, 77, 78, 79, 80, 81, 82, 83, 84, 85, 86, 87, 88, 89, 90, 91, 92, 93, 94, 95, 96, 97, 98, 99, 100, 101, 102] (fun i => [(73, .int .i64 i)]) (fun i => (b, J (jW u1 u2 u3 (wO q ((PL.take k).foldl putQ uJ) i) tabB) 98) :: (b6, J (eJ ⟨q.at_, q.by_, q.many, q.kind, q.size, .slice (Q_ bx) xs.length xs.length⟩) 337) :: ((b65, J (aN eJ L) 337) :: GL)) (fun i => i ≤ q.many) (fun i => q.many - i) 0 ?_ ?_ ?_ ?_
  ·exact av _
  ·exact .cons U .nil
  ·exact fun _ h => by simp only [aDh]; exact St.fl [[_], [_], ((b65, J (aN eJ L) 337) :: GL)] [1, 0, 2] rfl h
  intro i y17 hi
  refine cY ?_
  refine KC (fun h6 h6n => ?_) (fun h6 h6n => ?_)
  ·refine jN ?_
   refine RS ?_
   refine RX (gG U) U ?_
   rintro _ _ ⟨b8, rfl, rfl⟩
   refine W iB U (dO ?_)
   refine gO true U U U U ?_
   refine dO ?_
   refine RY (fO (s := 1) i U U U U aEz) U (W (aX U U (fun w hw => by rw [fq]; exact (hrx.row (fun x hx => by repeat (first | exact hx | refine .tail _ ?_ | refine bD _ ?_)) w hw) i _ (aCm aEz))) U ?_)
   refine bG ?_
   refine W iB U (bG ?_)
   have hP : (wO q ((PL.take k).foldl putQ uJ) i).length = 256 := by rw [Yq]; exact hP2
   refine DR [3, 4, 5, 6, 8, 9, 10] (bW [0, 2, 4, 6, 8, 10, 12, 14, 16, 18, 20, 22, 25]) ?_
   refine dO ?_
   refine DW (v := (.int .i64 ((q.by_ * i : Nat) : Int))) U U U (aD _ U0) (DW (v := (.int .i64 ((q.at_ + q.by_ * i : Nat) : Int))) U U U (aD _ aBI) (gL U U U U Le U U ?_))
   refine aU ?_
   refine DY U (iP (s := 5) (q.at_ + q.by_ * i) U U U U (hq1 i aM)) U (DZ U (hQ (vs := cO (Aa q i)) 1 U U (by rw [aQC hx]; rfl) U U U aD5) U aW ?_)
   simp only [ak, bf]
   rw [show 0 + 3 + (q.at_ + q.by_ * i) * 5 = 3 + (q.at_ + q.by_ * i) * 5 by omega, Cg hP (hq1 i aM), ← A8]
   refine aU ?_
   refine RW (v := (.int .i64 ((i + 1 : Nat) : Int))) U U (aD _ (eX I)) (aU ?_)
   exact ⟨i + 1, gS, gS, .cons U .nil, bJ, fun _ h => h.sub (bj _ _)⟩
  refine aU ?_
  refine RW (v := (.int .i64 ((k + 1 : Nat) : Int))) U U (aD _ (eX I)) (aU ?_)
  obtain rfl : q.many = i := by (try simp only [al, ah, ci, aq, cr, ar, ne_eq] at *); omega
  exact ⟨k + 1, gS, gS, .cons U .nil, bJ, fun _ h => aCP⟩
 refine aU ?_
 obtain rfl : 41 = k := by (try simp only [al, ah, ci, aq, cr, ar, ne_eq] at *); omega
 rw [show PL.take 41 = PL from rfl]
 have hQl : (PL.foldl putQ uJ).length = 256 := by rw [aBK, aEs]
 obtain ⟨PQ, hPQ⟩ : ∃ X, PL.foldl putQ uJ = X := ⟨_, rfl⟩
 rw [hPQ]
 rw [hPQ] at hQl
 refine eK ?_
 refine dV (σ := Nat) [9, 104, 105, 106, 107, 108, 109, 110, 111, 112, 113, 114, 115, 116, 117, 118] (fun y => [(104, .int .i64 y)]) (fun y => (b, J (jW u1 u2 u3 (Az PQ y) tabB) 98) :: ((b65, J (aN eJ L) 337) :: GL)) (fun y => y ≤ 8) (fun y => 8 - y) 0 ?_ ?_ ?_ ?_
 ·exact av _
 ·exact .cons U .nil
 ·exact fun _ h => by simp only [aMC]; exact h
 intro y y26 hy
 refine cY ?_
 refine KC (fun h7 h7n => ?_) (fun h7 h7n => ?_)
 ·refine bA ?_
  have hy8 : y < 8 := by (try simp only [al, ah, ci, aq, cr, ar, ne_eq] at *); omega
  have hP : (Az PQ y).length = 256 := by rw [aKm]; exact hQl
  have hB : tabB.length = 256 := by simp [tabB]
  refine bU ?_
  refine RW (v := (.int .i64 ((8 * y : Nat) : Int))) U U (aD _ Oz) (RW (v := (.int .i64 ((199 + 8 * y : Nat) : Int))) U U (aD _ Oz) (bG ?_))
  refine RW (v := (.int .i64 ((8 * y : Nat) : Int))) U U (aD _ Oz) (RW (v := (.int .u16 ((8 * y : Nat) : Int))) U U (aD _ (tW I I)) (RS ?_))
  refine aU ?_
  refine RY (iP (s := 5) (199 + 8 * y) U U U U aM) U (W (hQ (vs := cO ⟨28, 0, 0, 1, ((8 * y : Nat) : Int)⟩) 0 U U U U U U Ei) U ?_)
  simp only [ak]
  rw [show 0 + 3 + (199 + 8 * y) * 5 = 3 + (199 + 8 * y) * 5 by omega, Cg hP I, ← aBU]
  refine aU ?_
  refine RW (v := (.int .i64 ((y + 1 : Nat) : Int))) U U (aD _ (eX I)) (aU ?_)
  exact ⟨y + 1, gS, gS, .cons U .nil, bJ, fun _ h => h⟩
 refine bG ?_
 obtain rfl : 8 = y := by (try simp only [al, ah, ci, aq, cr, ar, ne_eq] at *); omega
 rw [← hPQ, aNU]
 exact EN (.cons_cons _ (du _)) ⟨U, U⟩
def disable (w : AI) : (callFunc 269 #[]).run prog w = .ok (.value (.tuple #[])) w := run_call_mark0 func269 aO aO aO .disable aO w
def enable (w : AI) : (callFunc 271 #[]).run prog w = .ok (.value (.tuple #[])) w := run_call_mark0 func271 aO aO aO .enable aO w
def acquire (a : Addr) (w : AI) : (callFunc 272 #[.pointer (some a)]).run prog w = .ok (.value (.tuple #[])) w := run_call_marked func272 aO aO aO .acquire aO a w
def releaseMerge (a : Addr) (w : AI) : (callFunc 274 #[.pointer (some a)]).run prog w = .ok (.value (.tuple #[])) w := run_call_marked func274 aO aO aO .releaseMerge aO a w
def aQp (a : Addr) (x : AH) (u : FrameMode) (w : AI) (hc : w.cell? a = some x) (hz : w.frozen? a = false) :
  CallsD prog 225 #[.pointer (some a), .bool true] u w fun e u' w' => u' = u ∧ (e = .returned (.tuple #[]) ∧ w' = w.drew.setCell a (.int .u32 1)) := by
 have hc' : w.drew.cell? a = some x := by go_simp
 have hz' : w.drew.frozen? a = false := by go_simp
 have hst := run_call_store (P := prog) func244 aO aO aO aO (k := .u32) (y := 1) hc' hz'
 go_enter_d func225, Tryz.ntmps225
 go_wp2
 go_region_calls
 all_goals (go_end0; exact ⟨rfl, rfl⟩)
def aLS (a : Addr) (u : FrameMode) (w : AI) (hc : w.cell? a = some (.int .i32 1)) (hz : w.frozen? a = false) :
  CallsD prog 224 #[.pointer (some a)] u w fun e u' w' => u' = u ∧ (e = .returned (.tuple #[]) ∧ w' = w.setCell a (.int .i32 0)) := by
 have hd := disable
 have he := enable
 have hr := releaseMerge
 have hadd := run_call_add (P := prog) func275 aO aO aO .i32 aO (y := -1) (s := 0) hc hz (by simp [go_sem]; rfl)
 have hcv := run_convert_to_unsafe (P := prog) (src := 403) (dst := 309) Tryz.underlying403 Tryz.underlying309 aO hc
 go_enter_d func224, Tryz.ntmps224
 go_wp2
 go_end0
 go_wp2
 go_end0
 exact ⟨U, U⟩
def aIC (a : Addr) (w : AI) (hc : w.cell? a = some (.int .i32 0)) (hz : w.frozen? a = false) :
  Calls prog 223 #[.pointer (some a)] w fun e w' => e = .returned (.tuple #[]) ∧ w' = w.setCell a (.int .i32 1) := by
 have hd := disable
 have he := enable
 have ha := acquire
 have hcas := run_call_cas_hit (P := prog) func270 aO aO aO .i32 aO (y := 1) hc hz
 have hc' : (w.setCell a (.int .i32 1)).cell? a = some (.int .i32 1) := World.cell?_setCell_same w a _ hc
 have hcv := run_convert_to_unsafe (P := prog) (src := 403) (dst := 309) Tryz.underlying403 Tryz.underlying309 aO hc'
 go_enter func223, Tryz.ntmps223
 go_wp2
 first | go_end0 | (simp only [Exit.inBlock, Exit.then]; refine bodyPost_ret (results_none rfl _ _ _) rfl ?_) | refine bodyPost_ret (results_none rfl _ _ _) rfl ?_
 go_wp2
 go_end0
 exact ⟨U, U⟩
set_option maxHeartbeats 1600000 in
def aPg (b : Nat) (w : AI) (F : AI → Prop)
  (h0 : w.cell? ⟨b, 0, none⟩ = some (.int .u32 0)) (h1 : w.cell? ⟨b, 0 + 1, none⟩ = some (.int .i32 0)) (f1 : w.frozen? ⟨b, 0 + 1, none⟩ = false)
  (hf : Calls prog 151 #[P_ b] (w.setCell ⟨b, 0 + 1, none⟩ (.int .i32 1)) fun e w' => e = .returned (.tuple #[]) ∧ F w')
  (hF : ∀ w', F w' → w'.cell? ⟨b, 0, none⟩ = some (.int .u32 0) ∧ w'.cell? ⟨b, 0 + 1, none⟩ = some (.int .i32 1) ∧ w'.frozen? ⟨b, 0, none⟩ = false ∧ w'.frozen? ⟨b, 0 + 1, none⟩ = false) :
  Calls prog 191 #[P_ b, .func (.func 151) #[P_ b] #[]] w fun e w' => e = .returned (.tuple #[]) ∧
   ∃ w2, F w2 ∧ w' = (w2.drew.setCell ⟨b, 0, none⟩ (.int .u32 1)).setCell ⟨b, 0 + 1, none⟩ (.int .i32 0) := by
 have hl := run_call_load (P := prog) func222 aO aO aO .u32 aO (w := w.setCell ⟨b, 0 + 1, none⟩ (.int .i32 1)) (a := ⟨b, 0, none⟩) (x := 0) ((World.cell?_setCell_other _ ⟨b, 0 + 1, none⟩ ⟨b, 0, none⟩ _ aL).trans h0)
 have hnot : ∀ (x : Bool) (w : AI), (Op.unary .not (.bool x)).run prog w = .ok (.bool (!x)) w := fun _ _ => rfl
 go_enter_defers func191, Tryz.ntmps191
 go_wp2_with (go_at_call 223; refine (aIC ⟨b, 0 + 1, none⟩ _ (by go_simp) (by go_simp)).mono ?_; rintro e w' ⟨rfl, rfl⟩)
 go_wp2_with (first | (go_at_call 151; refine hf.mono ?_; rintro e w' ⟨rfl, hw2⟩) | (go_at_call 190; go_in))
 obtain ⟨c0, c1, z0, z1⟩ := hF _ hw2
 refine leaves_cons (f := 225) (args := #[P_ b, .bool true]) aL (by simp [go_sem]) ?_
 refine (aQp ⟨b, 0, none⟩ (.int .u32 0) .returning _ c0 z0).mono ?_
 rintro e u' w'' ⟨rfl, rfl, rfl⟩
 refine leaves_cons (f := 224) (args := #[.pointer (some ⟨b, 0 + 1, none⟩)]) (by simp [settle]) (by simp [go_sem]) ?_
 refine (aLS ⟨b, 0 + 1, none⟩ _ _ ?_ ?_).mono ?_
 ·refine (World.cell?_setCell_other _ ⟨b, 0, none⟩ ⟨b, 0 + 1, none⟩ _ aL).trans ?_
  rw [World.cell?_drew]
  exact c1
 ·simpa using z1
 rintro e u' w'' ⟨rfl, rfl, rfl⟩
 simp [Leaves, settle, results, Tryz.results191]
 exact ⟨_, hw2, U⟩
def sQ (b : Nat) (u3 : AH) : aF := [(b, J (jW (.int .u32 1) (.int .i32 0) u3 sR tabB) 98)]
def kF (b : Nat) (u3 : AH) (H : aF) : Prop :=
 (∃ P B, P.length = 256 ∧ B.length = 256 ∧ H = [(b, J (jW (.int .u32 0) (.int .i32 0) u3 P B) 98)]) ∨ H = sQ b u3
def aM0 (b : Nat) (d : Int) (w : AI) (h0 : w.cell? ⟨b, 0, none⟩ = some (.int .u32 d)) :
  Calls prog 190 #[P_ b] w fun e w' => e = .returned (.bool (d != 0)) ∧ w' = w := by
 have hl := run_call_load (P := prog) func222 aO aO aO .u32 aO h0
 go_enter func190, Tryz.ntmps190
 go_wp2
 go_ret
 exact ⟨U, U⟩
def aEj (b : Nat) (d : Int) (w : AI) (h0 : w.cell? ⟨b, 0, none⟩ = some (.int .u32 d)) :
  aG prog 190 [P_ b] w [] (V_ (.bool (d != 0))) := by
 refine Calls.mono (aM0 b d w h0) ?_
 rintro e w' ⟨rfl, rfl⟩
 exact ⟨_, [], U, St.refl _, U, U⟩
def aNY (b : Nat) (u3 : AH) (P B : List cJ) (hP : P.length = 256) (hB : B.length = 256) (w : AI) (hb : w.heap[b]? = some (J (jW (.int .u32 0) (.int .i32 0) u3 P B) 98)) :
  aG prog 191 [P_ b, .func (.func 151) #[P_ b] #[]] w [b] (fun v H => v = .tuple #[] ∧ H = sQ b u3) := by
 have hst := St.lent1 hb
 have h1 : St w [b] [(b, J (jW (.int .u32 0) (.int .i32 1) u3 P B) 98)] (w.setCell ⟨b, 0 + 1, none⟩ (.int .i32 1)) := hst.setCell (off := 0 + 1) (.int .i32 1)
 have hb1 := h1.holds _ (.head _)
 refine Calls.mono (aPg b w (fun w2 => St (w.setCell ⟨b, 0 + 1, none⟩ (.int .i32 1)) [b] [(b, J (jW (.int .u32 0) (.int .i32 1) u3 sR tabB) 98)] w2)
  (by rw [uO hb]; rfl) (by rw [uO hb]; rfl) (Ob hb) (Calls.mono (aIk b _ _ _ P B hP hB _ hb1) ?_) ?_) ?_
 ·rintro e w' ⟨v, H, rfl, h2, rfl, rfl⟩
  exact ⟨U, h2⟩
 ·intro w2 h2
  have hb2 := h2.holds _ (.head _)
  exact ⟨by rw [uO hb2]; rfl, by rw [uO hb2]; rfl, Ob hb2, Ob hb2⟩
 ·rintro e w' ⟨rfl, w2, h2, rfl⟩
  have hA := h1.after h2
  have hC := (hA.drew.setCell (off := 0) (.int .u32 1)).setCell (off := 0 + 1) (.int .i32 0)
  exact ⟨_, _, U, hC, U, U⟩
def pK (mb ub rb tb ob oc : Nat) (sp : AA) (plan : AH) (n : Nat) : Ad := { mb := mb, ub := ub, rb := rb, ob := ob, oc := oc, sp := sp, rc := n, rs := [], plan := plan, tab := P_ tb }
def aBX : CR := ⟨1, 176, 0, 19, 0, 216, 1, 77, 65534, 256⟩
def newM0 (rom : AB) : Mm := { cpu := ⟨r0, false, false, false, false⟩, bk := ⟨0, 0, 0, false, false, 0, 0, 0⟩, ck := ⟨0, 0, 0, 0, 0, false, false, 0, 0, 0, 0, 0⟩, tm := ⟨0, 0, 0, 0, false⟩, pd := ⟨0, 0⟩, pt := ⟨0, 0, 0, 0, 0, 0⟩, cp := ⟨0, 0⟩, bd := bdZ, flags := 0, lets := 0, steps := 0, cycles := 0, hd := hdH rom, u := jV, rom := rom, ram := List.replicate (hdH rom).ram.toNat 0, work := List.replicate 8192 0, high := List.replicate 127 0, acc := [] }
def Xy (rom : AB) : Mm := { newM0 rom with bk := ⟨(hdH rom).kind, (hdH rom).banks, (hdH rom).ram, decide ((hdH rom).kind = 0), false, 1, 0, 255⟩ }
def kY (rom : AB) : Mm := { Xy rom with cpu := ⟨aBX, false, false, false, false⟩ }
def Rd (A : Ad) (acc : AH) (m : Mm) (n : Nat) : AA := lJ m ++ (cBd m.bd ++ (([.int .u8 m.flags, .int .u8 m.lets, .int .u64 m.steps, .int .u64 m.cycles, .slice (Q_ A.ob) m.rom.length A.oc, A.plan] ++ (cHd m.hd ++ [A.tab, P_ A.ub, .slice (Q_ A.rb) n A.rc])) ++ (m.work.map (.int .u8) ++ (m.high.map (.int .u8) ++ [acc]))))
def cMmR_eq {A : Ad} {acc : AH} {m : Mm} {n : Nat} (h : m.ram.length = n) : Rd A acc m n = cMm A acc m := by subst h; rfl
def Ti (rom : AB) : dY (newM0 rom) := ⟨bdZ_wf.ln, cx, cx⟩
def Wl (rom : AB) : (hdH rom).ram = ((hdH rom).ram.toNat : Int) ∧ (hdH rom).ram.toNat ≤ 131072 := by
 have h : 0 ≤ (hdH rom).ram ∧ (hdH rom).ram ≤ 131072 := aG2 _ _
 omega
def kF.one {b : Nat} {u3 : AH} {H : aF} (h : kF b u3 H) : ∃ o, H = [(b, o)] := by
 rcases h with ⟨P, B, _, _, rfl⟩ | rfl
 ·exact ⟨_, U⟩
 ·exact ⟨_, U⟩
def vnf_int {k : AM} {x y : Int} (h : x = y) : bC (.int k x) = some (.int k y) := by rw [h]; rfl
structure Mm.Fr (R m : Mm) : Prop where
 rom : m.rom = R.rom
 hd : m.hd = R.hd
 ram : m.ram.length = R.ram.length
 kind : m.bk.kind = R.bk.kind
 banks : m.bk.banks = R.bk.banks
 size : m.bk.ram = R.bk.ram
section
variable {R m : Mm}
def Mm.Fr.refl (m : Mm) : Mm.Fr m m := ⟨rfl, rfl, rfl, rfl, rfl, rfl⟩
def Mm.Fr.ask (h : Mm.Fr R m) (k : Int) (is : Bool) : Mm.Fr R (askM k is m) := by unfold askM; split; exact ⟨h.rom, h.hd, h.ram, h.kind, h.banks, h.size⟩; exact h
def Mm.Fr.save (h : Mm.Fr R m) (a x : Int) : Mm.Fr R (nH a x m) := by
 unfold nH
 split
 ·exact ⟨h.rom, h.hd, h.ram, h.kind, h.banks, h.size⟩
 split
 ·exact h
 ·exact ⟨h.rom, h.hd, by show (m.ram.set _ _).length = _; rw [cy]; exact h.ram, h.kind, h.banks, h.size⟩
def Mm.Fr.setDevice (h : Mm.Fr R m) (a x : Int) : Mm.Fr R (setDeviceM a x m) := by
 unfold setDeviceM
 split
 ·exact Mm.Fr.ask (m := { m with pd := qN x m.pd }) ⟨h.rom, h.hd, h.ram, h.kind, h.banks, h.size⟩ _ _
 repeat' split
 all_goals first | exact h | exact ⟨h.rom, h.hd, h.ram, h.kind, h.banks, h.size⟩
def Mm.Fr.poke (h : Mm.Fr R m) (a x : Int) : Mm.Fr R (pokeM a x m) := by
 unfold pokeM
 split
 ·obtain ⟨h1, h2, h3⟩ := X0 a x m.bk
  unfold wM
  split <;> exact ⟨h.rom, h.hd, h.ram, by first | exact h1.trans h.kind, by first | exact h2.trans h.banks, by first | exact h3.trans h.size⟩
 split
 ·exact Mm.Fr.ask (m := { m with u := kZ m.u a x }) ⟨h.rom, h.hd, h.ram, h.kind, h.banks, h.size⟩ _ _
 split
 ·exact h.save a x
 split
 ·exact ⟨h.rom, h.hd, h.ram, h.kind, h.banks, h.size⟩
 split
 ·exact h
 ·exact h.setDevice a x
def Mm.Fr.cycle (h : Mm.Fr R m) : Mm.Fr R (cycleM m) := by
 have h1 : Mm.Fr R (cyc1 m) := Mm.Fr.ask (m := { m with cycles := (m.cycles + 1) % 18446744073709551616, tm := vO m.tm }) ⟨h.rom, h.hd, h.ram, h.kind, h.banks, h.size⟩ _ _
 have h2 : Mm.Fr R (cyc2 (cyc1 m)) := Mm.Fr.ask (m := { cyc1 m with pt := tickPt (cyc1 m).pt }) ⟨h1.rom, h1.hd, h1.ram, h1.kind, h1.banks, h1.size⟩ _ _
 have h3 : Mm.Fr R (cyc3 (cyc2 (cyc1 m))) := by unfold cyc3; split; exact ⟨h2.rom, h2.hd, h2.ram, h2.kind, h2.banks, h2.size⟩; exact h2
 have h4 : Mm.Fr R (cyc4 (cyc3 (cyc2 (cyc1 m)))) := ⟨h3.rom, h3.hd, h3.ram, h3.kind, h3.banks, h3.size⟩
 have h5 : Mm.Fr R (cyc5 (cyc4 (cyc3 (cyc2 (cyc1 m))))) := Mm.Fr.ask (Mm.Fr.ask (m := { cyc4 (cyc3 (cyc2 (cyc1 m))) with u := tickU (cyc4 (cyc3 (cyc2 (cyc1 m)))).u }) ⟨h4.rom, h4.hd, h4.ram, h4.kind, h4.banks, h4.size⟩ _ _) _ _
 show Mm.Fr R (qY _)
 unfold qY; split; exact ⟨h5.rom, h5.hd, h5.ram, h5.kind, h5.banks, h5.size⟩; exact h5
def Mm.Fr.note (h : Mm.Fr R m) (k a x : Int) : Mm.Fr R (vZ k a x m) := ⟨h.rom, h.hd, h.ram, h.kind, h.banks, h.size⟩
end
structure Mm.Dec (m : Mm) : Prop where
 good : m.u.Good
 dy : m.ck.Dy
section
variable {m : Mm}
def Mm.Dec.ask (h : m.Dec) (k : Int) (is : Bool) : (askM k is m).Dec := by unfold askM; split; exact ⟨h.good, h.dy⟩; exact h
def Ck.Dy.hold {c : Ck} (h : c.Dy) : (Ch c).Dy := h
def Mm.Dec.poke (h : m.Dec) (a : Int) {x : Int} (hx : 0 ≤ x ∧ x < 256) : (pokeM a x m).Dec := by
 unfold pokeM
 split
 ·unfold wM; split
  ·exact ⟨h.good, h.dy.hold⟩
  ·exact ⟨h.good, h.dy⟩
 split
 ·exact Mm.Dec.ask (m := { m with u := kZ m.u a x }) ⟨h.good.write hx, h.dy⟩ _ _
 split
 ·unfold nH
  split
  ·exact ⟨h.good, h.dy.write _ hx⟩
  split
  ·exact h
  ·exact ⟨h.good, h.dy⟩
 split
 ·exact ⟨h.good, h.dy⟩
 split
 ·exact h
 unfold setDeviceM
 split
 ·exact Mm.Dec.ask (m := { m with pd := qN x m.pd }) ⟨h.good, h.dy⟩ _ _
 repeat' split
 all_goals first | exact h | exact ⟨h.good, h.dy⟩
def Mm.Dec.cycle (h : m.Dec) (hw : m.Wf) : (cycleM m).Dec := by
 have w1 := hw.cyc1W
 have w2 := w1.cyc2W
 have h1 : (cyc1 m).Dec := Mm.Dec.ask (m := { m with cycles := (m.cycles + 1) % 18446744073709551616, tm := vO m.tm }) ⟨h.good, h.dy⟩ _ _
 have h2 : (cyc2 (cyc1 m)).Dec := Mm.Dec.ask (m := { cyc1 m with pt := tickPt (cyc1 m).pt }) ⟨h1.good, h1.dy⟩ _ _
 have h3 : (cyc3 (cyc2 (cyc1 m))).Dec := by
  unfold cyc3; split
  ·exact ⟨h2.good.sprite _ (Nr (m := { cyc2 (cyc1 m) with cp := tickCp (cyc2 (cyc1 m)).cp }) (w2.cp_ w2.cp.tick) _), h2.dy⟩
  ·exact h2
 have h4 : (cyc4 (cyc3 (cyc2 (cyc1 m)))).Dec := ⟨h3.good, h3.dy⟩
 have h5 : (cyc5 (cyc4 (cyc3 (cyc2 (cyc1 m))))).Dec := Mm.Dec.ask (Mm.Dec.ask (m := { cyc4 (cyc3 (cyc2 (cyc1 m))) with u := tickU (cyc4 (cyc3 (cyc2 (cyc1 m)))).u }) ⟨h4.good.tick, h4.dy⟩ _ _) _ _
 show (qY _).Dec
 unfold qY; split; exact ⟨h5.good, h5.dy.tick⟩; exact h5
end
structure MmG (R : Mm) (D : Prop) (n : Nat) (m : Mm) : Prop where
 ok : iQ n m
 fr : Mm.Fr R m
 dec : D → m.Dec
def I3 (R : Mm) (D : Prop) : aQ8 Mm where
 toaQ7 := fE
 ok := MmG R D
 oF := fun {n m a} h ha => ⟨⟨h.ok.get 3 ha, h.fr.cycle.note _ _ _, fun hd => (fun k : (cycleM m).Dec => ⟨k.good, k.dy⟩) ((h.dec hd).cycle h.ok.wf)⟩, Kb h.ok.wf.cycle _⟩
 oR := fun {n m a} h ha => ⟨⟨h.ok.get 1 ha, h.fr.cycle.note _ _ _, fun hd => (fun k : (cycleM m).Dec => ⟨k.good, k.dy⟩) ((h.dec hd).cycle h.ok.wf)⟩, Kb h.ok.wf.cycle _⟩
 oW := fun {n m a x} h ha hx => ⟨h.ok.write ha hx, by
  show Mm.Fr R (vZ 2 a x _)
  refine Mm.Fr.note ?_ _ _ _
  split
  ·exact h.fr.cycle.poke _ _
  ·exact h.fr.cycle, fun hd => by
  have k := (h.dec hd).cycle h.ok.wf
  have g : (if letsCp (cycleM m).cp a = true then pokeM a x (cycleM m) else cycleM m).Dec := by
   split
   ·exact k.poke a hx
   ·exact k
  exact ⟨g.good, g.dy⟩⟩
 oI := fun {n m} h => ⟨h.ok.cycle.note 0 M M, h.fr.cycle.note _ _ _, fun hd => (fun k : (cycleM m).Dec => ⟨k.good, k.dy⟩) ((h.dec hd).cycle h.ok.wf)⟩
 oP := fun _ => aCi _
 oA := fun h hk => ⟨h.ok.ack hk, ⟨h.fr.rom, h.fr.hd, h.fr.ram, h.fr.kind, h.fr.banks, h.fr.size⟩, fun hd => ⟨(h.dec hd).good, (h.dec hd).dy⟩⟩
 oL := fun h hk => ⟨h.ok.le hk, h.fr, h.dec⟩
structure nY (R : Mm) (D : Prop) (m : Mm) : Prop where
 wf : m.Wf
 rg : m.cpu.r.Ok
 fr : Mm.Fr R m
 dec : D → m.Dec
section
variable {R m : Mm} {D : Prop} {plan : List gH} (hp : ∀ c ∈ plan, sA c)
include hp
def aFa (h : nY R D m) : MmG R D 7 (fD plan m) := by
 have h1 : Mm.Fr R (sI (jX plan m.steps) m) := Mm.Fr.ask (m := { m with pd := rH (jX plan m.steps) m.pd }) ⟨h.fr.rom, h.fr.hd, h.fr.ram, h.fr.kind, h.fr.banks, h.fr.size⟩ _ _
 refine ⟨⟨h.wf.start hp, by show (0 : Nat) + 7 ≤ 1000000; decide, fun e he => by cases he⟩, ⟨h1.rom, h1.hd, h1.ram, h1.kind, h1.banks, h1.size⟩, fun hd => ?_⟩
 have h2 : (sI (jX plan m.steps) m).Dec := Mm.Dec.ask (m := { m with pd := rH (jX plan m.steps) m.pd }) ⟨(h.dec hd).good, (h.dec hd).dy⟩ _ _
 exact ⟨h2.good, h2.dy⟩
def nY.step (h : nY R D m) : nY R D (eT plan m).2 := by
 have hq := aD0 (K := I3 R D) (n := 0) (x := (⟨m.cpu, fD plan m⟩ : Rn Mm)) ⟨h.rg, aFa hp h⟩
 have hw : (fK fE (⟨m.cpu, fD plan m⟩ : Rn Mm)).2.m.Wf := hq.m.ok.wf
 exact ⟨hw.steps_ I _, hq.r, ⟨hq.m.fr.rom, hq.m.fr.hd, hq.m.fr.ram, hq.m.fr.kind, hq.m.fr.banks, hq.m.fr.size⟩, fun hd => ⟨(hq.m.dec hd).good, (hq.m.dec hd).dy⟩⟩
end
def J4 (plan : List gH) (m : Mm) : Nat → Mm
 | 0 => m
 | i + 1 => (eT plan (J4 plan m i)).2
def nY.run {R m : Mm} {D : Prop} {plan : List gH} (hp : ∀ c ∈ plan, sA c) (h : nY R D m) : ∀ i, nY R D (J4 plan m i)
 | 0 => h
 | i + 1 => (h.run hp i).step hp
def aQ0 : aBX.Ok := by constructor <;> decide
def aKV {rom : AB} (h : errH rom = 0) : 336 ≤ rom.length ∧ rom.getD 333 0 = chkH rom 25 ∧ (∃ s, sortH (rom.getD 327 0) = some s) ∧ rom.getD 328 0 ≤ 8 ∧ rom.getD 329 0 < 6 ∧ (rom.length : Int) = 32768 * 2 ^ (rom.getD 328 0).toNat := by
 unfold errH at h
 split at h
 ·cases h
 split at h
 ·cases h
 rename_i h1 h2
 split at h
 ·cases h
 rename_i s hs
 split at h
 ·cases h
 rename_i h3
 split at h
 ·cases h
 rename_i h4
 exact ⟨aR, Decidable.byContradiction h2, ⟨s, hs⟩, aR, aR, Decidable.byContradiction h4⟩
def aLB {rom : AB} (h : errH rom = 0) (hb : bE rom) : (kY rom).Wf := by
 obtain ⟨_, _, ⟨s, hs⟩, h3, _, h5⟩ := aKV h
 have hk := aPY hs
 have h8 := hb.get 328
 have hram := Wl rom
 have ek : (hdH rom).kind = s.1 := by unfold hdH; rw [hs]; rfl
 have eb : (hdH rom).banks = 2 * 2 ^ (rom.getD 328 0).toNat := rfl
 have hpow : (1 : Int) ≤ 2 ^ (rom.getD 328 0).toNat ∧ (2 : Int) ^ (rom.getD 328 0).toNat ≤ 256 := by
  rcases (show rom.getD 328 0 = 0 ∨ rom.getD 328 0 = 1 ∨ rom.getD 328 0 = 2 ∨ rom.getD 328 0 = 3 ∨ rom.getD 328 0 = 4 ∨ rom.getD 328 0 = 5 ∨ rom.getD 328 0 = 6 ∨ rom.getD 328 0 = 7 ∨ rom.getD 328 0 = 8 by omega) with e | e | e | e | e | e | e | e | e <;> rw [e] <;> decide
 have hz : ∀ n : Nat, bE (List.replicate n 0) := fun n x hx => by rw [(List.mem_replicate.1 hx).2]; decide
 have a0 : (0 : Int) ≤ 0 ∧ (0 : Int) < 256 := by decide
 have b0 : (0 : Int) ≤ 0 ∧ (0 : Int) < 65536 := by decide
 have c0 : (0 : Int) ≤ 0 ∧ (0 : Int) < 18446744073709551616 := by decide
 have d0 : (0 : Int) ≤ 0 ∧ (0 : Int) < 4294967296 := by decide
 have hh : bE ([0, 0, 0, 0, 0] : AB) := by unfold bE; decide
 have ek2 : 0 ≤ (hdH rom).kind ∧ (hdH rom).kind < 256 := by rw [ek]; exact hk
 have eb2 : 0 ≤ (hdH rom).banks ∧ (hdH rom).banks < 65536 := by rw [eb]; omega
 have er2 : 0 ≤ (hdH rom).ram ∧ (hdH rom).ram < 1048576 := by omega
 have eb3 : 0 < (hdH rom).banks := by rw [eb]; omega
 have el2 : (rom.length : Int) = 16384 * (hdH rom).banks := by rw [eb, h5]; omega
 refine ⟨⟨ek2, eb2, er2, show (0 : Int) ≤ 1 ∧ (1 : Int) < 65536 by decide, b0, show (0 : Int) ≤ 255 ∧ (255 : Int) < 256 by decide⟩, ⟨⟨a0, a0, a0, show -9223372036854775808 ≤ (0 : Int) ∧ (0 : Int) ≤ 9223372036854775807 by decide, hh⟩, d0⟩, ⟨b0, a0, a0, a0⟩, ⟨a0, a0⟩, ⟨a0, a0, a0, b0, b0, b0⟩, ⟨a0, b0⟩, bdZ_wf, a0, a0, c0, c0, aCW, eb3, el2, hb, ?_, hz _, cx, hz _, cx, hz _⟩
 show ((List.replicate (hdH rom).ram.toNat (0 : Int)).length : Int) = (hdH rom).ram
 rw [cx]; omega
def aQS {rom : AB} (h : errH rom = 0) (hb : bE rom) : nY (kY rom) True (kY rom) := ⟨aLB h hb, aQ0, .refl _, fun _ => ⟨aGu, show (0 : Int) ≤ 0 ∧ (0 : Int) < 512 by decide⟩⟩
def Hj (rom : AB) : (kY rom).ram.length ≤ 131072 := by show (List.replicate _ (0 : Int)).length ≤ _; rw [cx]; exact (Wl rom).2
def madeAt (i : Nat) : Nat := if 4 ≤ i then 332 + i else 256 + i
def madeP (l prog : AB) : Nat → AB
 | 0 => l
 | i + 1 => (madeP l prog i).set (madeAt i) (prog.getD i 0)
def romS (b : Int) : Nat := 32768 * 2 ^ (b % 9).toNat
def madeZ (kind b ram : Int) (prog : AB) : AB := (((madeP (List.replicate (romS b) 0) prog (min prog.length 15000)).set 327 kind).set 328 (b % 9)).set 329 ram
def madeI (kind b ram : Int) (prog : AB) : AB := (madeZ kind b ram prog).set 333 (chkH (madeZ kind b ram prog) 25)
def Wc (l prog : AB) : ∀ i, (madeP l prog i).length = l.length
 | 0 => rfl
 | i + 1 => by unfold madeP; rw [cy]; exact Wc l prog i
def Ky {l : AB} (h : bE l) {x : Int} (hx : 0 ≤ x ∧ x < 256) (i : Nat) : bE (l.set i x) := fun y hy => by
 rcases ey hy with h1 | rfl
 ·exact h y h1
 ·exact hx
def aD7 {l prog : AB} (h : bE l) (hp : bE prog) : ∀ i, bE (madeP l prog i)
 | 0 => h
 | i + 1 => Ky (aD7 h hp i) (hp.get i) _
def aOw (b : Int) : 32768 ≤ romS b ∧ romS b ≤ 8388608 := by
 have hb : b % 9 = 0 ∨ b % 9 = 1 ∨ b % 9 = 2 ∨ b % 9 = 3 ∨ b % 9 = 4 ∨ b % 9 = 5 ∨ b % 9 = 6 ∨ b % 9 = 7 ∨ b % 9 = 8 := by omega
 unfold romS
 rcases hb with e | e | e | e | e | e | e | e | e <;> rw [e] <;> decide
def aAW (kind b ram : Int) (prog : AB) : (madeZ kind b ram prog).length = romS b := by unfold madeZ; rw [cy, cy, cy, Wc, cx]
def Q9 (kind b ram : Int) (prog : AB) : (madeI kind b ram prog).length = romS b := by unfold madeI; rw [cy, aAW]
def aQw (n : Nat) : bE (List.replicate n (0 : Int)) := fun x hx => by rw [(List.mem_replicate.1 hx).2]; decide
def aA0 {kind b ram : Int} {prog : AB} (hk : 0 ≤ kind ∧ kind < 256) (hr : 0 ≤ ram ∧ ram < 256) (hp : bE prog) : bE (madeZ kind b ram prog) :=
 Ky (Ky (Ky (aD7 (aQw _) hp _) hk _) I _) hr _
def aDg {kind b ram : Int} {prog : AB} (hk : 0 ≤ kind ∧ kind < 256) (hr : 0 ≤ ram ∧ ram < 256) (hp : bE prog) : bE (madeI kind b ram prog) :=
 Ky (aA0 hk hr hp) (Tf _ _) _
def put_byte {l : AB} {n o o' : Nat} (x : Int) (hn : l.length = n) (h : o' < n) (ho : o = o') : aV (l.map (.int .u8)) o [.int .u8 x] = (l.set o' x).map (.int .u8) := by
 subst ho hn
 exact vG .u8 h x
def len_byte {l : AB} {n o : Nat} {v : AH} (hn : l.length = n) (h : o < n) : o + [v].length ≤ (l.map Z).length := by
 subst hn
 rw [eD]
 exact h
def madeP_n (b : Int) (prog : AB) (i : Nat) : (madeP (List.replicate (romS b) 0) prog i).length = romS b := by rw [Wc, cx]
structure Gm where
 kind : Int
 ram : Int
 pa : AC
 pc : Nat
 prog : AB
 qa : AC
 qc : Nat
 plan : List gH
structure Gm.Ok (w : AI) (g : Gm) : Prop where
 kind : 0 ≤ g.kind ∧ g.kind < 256
 ram : 0 ≤ g.ram ∧ g.ram < 256
 prog : bE g.prog
 lp : g.prog.length ≤ g.pc ∧ g.prog.length ≤ maxLen
 np : Ns w .u8 g.pa g.prog
 plan : ∀ c ∈ g.plan, sA c
 lq : g.plan.length ≤ g.qc ∧ g.plan.length ≤ maxLen
 nq : iY w pX g.qa g.plan
def aPO (cs : AA) (h : nG [.int .u64, .int .u8] cs) : ∃ x, cs = pX x ∧ sA x := by
 match cs, h with
 | [a, b], h =>
  obtain ⟨⟨x, rfl, hx⟩, ⟨y, rfl, hy⟩, _⟩ := h
  have h1 := aP6 hx
  have h2 := Ir hy
  exact ⟨⟨x, y⟩, U, by unfold sA; dsimp only; omega⟩
section
variable {plan : List gH} {R m n : Mm}
def aQU (x : List Ac) : fD plan { m with acc := x } = fD plan m := by unfold fD sI askM; dsimp only; split <;> rfl
def aQJ (x : List Ac) : eT plan { m with acc := x } = eT plan m := by unfold eT; rw [aQU]
def qU (m n : Mm) : Prop := n = { m with acc := n.acc }
def qU.step (h : qU m n) : eT plan n = eT plan m := by rw [h]; exact aQJ _
def qU.enc (h : qU m n) : fM n = fM m := by rw [h]; rfl
def L6 (hm : nY R True m) (hn : nY R True n) : 0 = sE n (fM m) ∧ uN n (fM m) = { m with acc := [] } := by
 have hl : n.ram.length = m.ram.length := hn.fr.ram.trans hm.fr.ram.symm
 have hd := (hm.dec trivial)
 have hday : 0 ≤ m.ck.day ∧ m.ck.day < 65536 := by have := hd.dy; unfold Ck.Dy at this; omega
 have e8 : (oM m).length = 8482 := Wo hm.wf
 have e1 : (fM m).drop 8482 = m.ram ++ fQ m.u := by unfold fM; rw [← e8, f4]
 have e2 : (fM m).drop (8482 + n.ram.length) = fQ m.u := by rw [← bw, e1, hl, f4]
 have e3 : ((fM m).drop 8482).take n.ram.length = m.ram := by rw [e1, hl, ip]
 have e4 : fG n (fM m) = { m with acc := n.acc } := by
  unfold fG Sj
  rw [e2, e3, aPm hd.good, show yU n (fM m) = _ from aPf hm.wf hm.rg hday n _]
  have h1 : n.rom = m.rom := hn.fr.rom.trans hm.fr.rom.symm
  have h2 : n.hd = m.hd := hn.fr.hd.trans hm.fr.hd.symm
  have h3 : n.bk.kind = m.bk.kind := hn.fr.kind.trans hm.fr.kind.symm
  have h4 : n.bk.banks = m.bk.banks := hn.fr.banks.trans hm.fr.banks.symm
  have h5 : n.bk.ram = m.bk.ram := hn.fr.size.trans hm.fr.size.symm
  simp only [h1, h2, h3, h4, h5]
 have e5 : 0 = sE n (fM m) := aCY (m := n) (l := fM m) (by rw [yF hm.wf, yF hn.wf, hl]) (by rw [e2]; exact aOc hd.good) (by rw [e4]; rfl)
 exact ⟨e5, by rw [aFi e5, e4]⟩
def nY.acc_ (h : nY R True m) (x : List Ac) : nY R True { m with acc := x } := ⟨h.wf.acc_ x, h.rg, ⟨h.fr.rom, h.fr.hd, h.fr.ram, h.fr.kind, h.fr.banks, h.fr.size⟩, fun _ => ⟨(h.dec trivial).good, (h.dec trivial).dy⟩⟩
end
def aGg (b : Nat) (ad va : AH) (hA : ad = .pointer none ∨ ad = P_ b) (w : AI) (hst : St w [b] [(b, J [ad, va] 237)] w) : aG prog 139 [P_ b] w [b] (fun v H => v = .tuple #[] ∧ H = [(b, J [P_ b, va] 237)]) := by
 refine cE func139 hst ?_
 refine ZBE ?_
 rcases hA with rfl | rfl
 ·refine ZBy ?_
  refine W (aX U U (bN (v := .pointer none) aE U)) U (iX ?_)
  refine ZBn ?_
  refine W (aNj U U U U U aE (ai U)) U (W (aNK (fn := Tryz.f172) (E := Extern.AbiNoEscape.same) func172 U U U U U (fun w => U)) U (W (aKK (n := 2) U U U U aE U aO) U (ZAm ?_)))
  refine W (bH (l' := [P_ b, va]) 0) U (eP ?_)
  exact Km
 refine ZBy ?_
 refine W (aX U U (bN (v := P_ b) aE U)) U (jM ?_)
 refine ZDG ?_
 refine W (aX U U (bN (v := P_ b) aE U)) U (ZBE ?_)
 refine W (aI2 U U U U) U (ZBE ?_)
 refine pE false U U ?_
 exact Km
def bwrite_fn (b : Nat) (ad va : AH) (hA : ad = .pointer none ∨ ad = P_ b) (n : Nat) (hn : n ≤ 1000000) (xs : AA) (G : aF) (hV : bM 5 1 va n xs G) (x : Int) (ms : AE) (w : AI) (hst : St w ms ((b, J [ad, va] 237) :: G) w) : aG prog 107 [P_ b, .int .u8 x] w ms (fun v H => v = .nilIface ∧ ∃ va' G', bM 5 1 va' (n + 1) (xs ++ [.int .u8 x]) G' ∧ H = (b, J [P_ b, va'] 237) :: G') := by
 obtain ⟨a6, c0, rfl⟩ := hV.slice
 refine cE func107 hst ?_
 refine ZDG ?_
 refine RX (kM (A := [(b, J [ad, (.slice a6 n c0)] 237)]) (G := G) (R := fun v H => v = .tuple #[] ∧ H = [(b, J [P_ b, (.slice a6 n c0)] 237)]) [b] K_ U (by intro x hx; obtain rfl := List.mem_singleton.1 hx; exact ⟨_, .head _⟩) (dJ (aGg b ad (.slice a6 n c0) hA))) U (jT ?_)
 refine ZAm ?_
 refine kG (L' := (b, J [P_ b, (.slice a6 n c0)] 237) :: (G ++ [])) (fun _ h => by rw [aw]; exact h) ?_
 refine ZBn ?_
 refine W (aX U U (bN (v := (.slice a6 n c0)) aE U)) U (ZBE ?_)
 refine RX (eQ (z := [.int .u8 0]) (l := [.int .u8 x]) (ps := [(0, .int .u8 x)]) U U U U U U) U (ZBN fun b0 => ?_)
 refine RX (mO (A := [(b0, _), (b, _)]) (G := G) (R := []) (v := (.slice a6 n c0)) (n := n) (xs := xs) (m := 1) (T := 5) (s := 1) (by_ := 1) (ys := [.int .u8 x]) U U U U hV (fun w hw => .row _ _ _ _ _ U (aH (b := b0) (.head _) w hw)) U I I) U ?_
 rintro v0 _ ⟨G0, hV0, _, rfl⟩
 obtain ⟨b1, cp9, sp0, rfl, rfl, hc0, hle9, hm9⟩ := hV0.full I
 refine kB ?_
 refine W (bH (l' := [P_ b, .slice (Q_ b1) (n + 1) cp9]) 2) U (eP ?_)
 refine aI ?_
 exact lC (fun _ _ => Cy U) (fun _ h => (h.sub (.cons_cons _ (.cons _ aJ))).perm (List.Perm.swap _ _ _)) ⟨U, _, _, hV0, U⟩
def bstring_fn (b : Nat) (ad va : AH) (T : List UInt8) (hT : T.length ≤ 1000000) (G : aF) (hV : bM 5 1 va T.length (txV T) G) (h0 : T.length = 0 → va = .slice none 0 0 ∧ G = []) (ms : AE) (w : AI) (hst : St w ms ((b, J [ad, va] 237) :: G) w) : aG prog 108 [P_ b] w ms (V_ (.string (bs T))) := by
 refine cE func108 hst ?_
 refine ZBn ?_
 rcases hV.parts h0 with ⟨hz, rfl, rfl⟩ | ⟨b9, k9, sp9, hne, rfl, rfl⟩
 ·refine DR [4, 5, 6, 7, 8, 9] (bW [0, 2, 4, 6, 10, 12, 14, 16, 18, 9, 21, 22]) ?_
  refine ZA7 ?_
  refine DL U U U (eN (v := .slice none 0 0) aE U) U (ZA7 ?_)
  refine DL U U U (eN (v := .slice none 0 0) aE U) U (DY U fY U (DZ U (aH6 U) U aDq (DZ U (aPv U U U) U aW ?_)))
  refine ZA7 ?_
  obtain rfl := dg hz
  exact EV U (du _) ⟨U, U⟩
 refine DR [4, 5, 6, 7, 8, 9] (bW [0, 2, 4, 6, 10, 12, 14, 16, 18, 9, 21, 22]) ?_
 refine ZA7 ?_
 refine DL U U U (eN (v := .slice (Q_ b9) T.length (k9 + 1)) aE U) U (ZA7 ?_)
 refine DL U U U (eN (v := .slice (Q_ b9) T.length (k9 + 1)) aE U) U (DY U fY U (DZ U (aJE U) U aDq (jC (fun w hw => hw.perm (List.Perm.swap _ _ _)) ?_)))
 refine DX U (aJC (a := T) (sp := sp9) U U U U U (fun h => hne (by rw [h]; rfl)) hT) U aW ?_
 rintro _ _ ⟨rfl, o13, rfl⟩
 exact N4
def yT (b : Nat) (u : PU) (hu : u.Wf) (w : AI) (hr : aK w b 0 (cU u)) : aG prog 193 [P_ b] w [] (V_ (.bool (jD u))) := by
 refine aT func193 ?_
 refine bZ ?_
 refine RY zA U (W (aX U U (cB (pY hr (sL hu (j := 0) M)) aL)) U (ZBn ?_))
 exact E0 U ⟨U, aD _ (aQD hu)⟩
def Ey (b : Nat) (u : PU) (hu : u.Wf) (w : AI) (hr : aK w b 0 (cU u)) : aG prog 155 [P_ b] w [] (V_ (.int .i64 (modeU u))) := by
 refine aT func155 ?_
 refine fJ ?_
 refine aP K_ (fun w hw => yT b u hu w (cG hr aL w hw)) ?_
 refine ZBy ?_
 refine KC (fun q0 z0 => ?_) (fun q0 z0 => ?_)
 ·refine ZBn ?_
  exact E0 U ⟨U, aD _ Jm⟩
 refine ZBn ?_
 refine W (aX U U (cB (pY hr (cU_line hu)) aL)) U (ZA7 ?_)
 refine KC (fun q1 z1 => ?_) (fun q1 z1 => ?_)
 ·refine ZBn ?_
  exact E0 U ⟨U, aD _ Jm⟩
 refine ZBn ?_
 refine W (aX U U (cB (pY hr (cU_dot hu)) aL)) U (ZA7 ?_)
 refine KC (fun q2 z2 => ?_) (fun q2 z2 => ?_)
 ·refine ZBn ?_
  exact E0 U ⟨U, aD _ Jm⟩
 refine ZBn ?_
 refine W (aX U U (cB (pY hr (cU_dot hu)) aL)) U (ZA7 ?_)
 refine KC (fun q3 z3 => ?_) (fun q3 z3 => ?_)
 ·refine ZBn ?_
  exact E0 U ⟨U, aD _ Jm⟩
 refine aI ?_
 exact E0 U ⟨U, aD _ Jm⟩
def aA4 (b : Nat) (u : PU) (hu : u.Wf) (w : AI) (hr : aK w b 0 (cU u)) : aG prog 156 [P_ b] w [] (V_ (.bool (Bc u))) := by
 have q0 : 0 ≤ u.R.getD 5 0 ∧ u.R.getD 5 0 < 256 := hu.look 5
 refine aT func156 ?_
 refine ZBn ?_
 refine DR [1, 7, 8, 9, 10, 11, 12] (bW [0, 3, 4, 6, 8, 10, 12, 14, 16, 18, 20, 22, 24, 26, 28, 30]) ?_
 refine ZBE ?_
 refine DZ U (dG K_ U (fun w hw => yT b u hu w (cG hr aL w hw))) U jB (KE (fun q1 z1 => ?_) (fun q1 z1 => ?_))
 ·refine ZA7 ?_
  refine DL U U U (gD (pY hr (cU_line hu)) aL) U (ZA7 ?_)
  refine DY U (by first | exact eG 5 rfl rfl rfl rfl M | exact eB 5 rfl rfl rfl rfl M | exact iP 5 rfl rfl rfl rfl M | exact fO 5 rfl rfl rfl rfl M) U (DL U U U (gD (pY hr (sL hu (j := 5) M)) aL) U (DW (v := (.int .i64 (u.R.getD 5 0))) U U U (aD _ (bY I I)) (ZBn ?_)))
  exact E0 U ⟨U, aD _ (by unfold Bc; simp_all)⟩
 refine lZ ?_
 exact E0 U ⟨U, aD _ (by unfold Bc; simp_all)⟩
def place_fn (b : Nat) (a : Int) (ha : 0 ≤ a ∧ a < 65536) (w : AI) : aG prog 153 [P_ b, .int .u16 a] w [] (V_ (placeV b a)) := by
 refine aT func153 ?_
 refine iG ?_
 refine KL (fun q0 z0 => ?_) (fun q0 z0 => ?_)
 ·refine ZBn ?_
  refine KC (fun q1 z1 => ?_) (fun q1 z1 => ?_)
  ·refine ZBy ?_
   refine RW (v := (.int .u16 (a - 32768))) U U (aD _ (tW aM aM)) (ZAm ?_)
   refine RY (eG (a - 32768).toNat U U U aM aM) U (ZBy ?_)
   exact aZ (fun _ _ => eY U U) ⟨U, by unfold placeV; rw [ag aM]⟩
  refine ZBy ?_
  refine KL (fun q2 z2 => ?_) (fun q2 z2 => ?_)
  ·refine ZBn ?_
   refine KC (fun q3 z3 => ?_) (fun q3 z3 => ?_)
   ·refine ZBy ?_
    refine RW (v := (.int .u16 (a - 65024))) U U (aD _ (tW aM aM)) (ZAm ?_)
    refine RY (eG (a - 65024).toNat U U U aM aM) U (ZBy ?_)
    exact aZ (fun _ _ => eY U U) ⟨U, by unfold placeV; rw [ae aM, ag aM]⟩
   refine ZDG ?_
   exact aZ (fun _ _ => eY U U) ⟨U, Ri⟩
  refine lS ?_
  exact aZ (fun _ _ => eY U U) ⟨U, Ri⟩
 refine cL ?_
 refine KL (fun q1 z1 => ?_) (fun q1 z1 => ?_)
 ·refine ZBn ?_
  refine KC (fun q2 z2 => ?_) (fun q2 z2 => ?_)
  ·refine ZBy ?_
   refine RW (v := (.int .u16 (a - 65024))) U U (aD _ (tW aM aM)) (ZAm ?_)
   refine RY (eG (a - 65024).toNat U U U aM aM) U (ZBy ?_)
   exact aZ (fun _ _ => eY U U) ⟨U, by unfold placeV; rw [ae aM, ag aM]⟩
  refine ZDG ?_
  exact aZ (fun _ _ => eY U U) ⟨U, Ri⟩
 refine lS ?_
 exact aZ (fun _ _ => eY U U) ⟨U, Ri⟩
def aFl (a : Int) (ha : 0 ≤ a ∧ a < 65536) (w : AI) : aG prog 154 [.int .u16 a] w [] (V_ (.int .i64 (numU a))) := by
 refine aT func154 ?_
 refine ZDG ?_
 refine RW (v := (.int .i64 (a))) U U (aD _ (bY I I)) (RW (v := (.int .i64 (a - 65344))) U U (aD _ (bY I I)) (ZDG ?_))
 refine KL (fun q0 z0 => ?_) (fun q0 z0 => ?_)
 ·refine jN ?_
  exact E0 U ⟨U, aD _ A3⟩
 refine ZA7 ?_
 refine KL (fun q1 z1 => ?_) (fun q1 z1 => ?_)
 ·refine cL ?_
  exact E0 U ⟨U, aD _ A3⟩
 refine ZBy ?_
 refine KC (fun q2 z2 => ?_) (fun q2 z2 => ?_)
 ·refine ZBn ?_
  exact E0 U ⟨U, aD _ A3⟩
 refine ZDG ?_
 exact E0 U ⟨U, aD _ (by unfold numU; rw [ae aM])⟩
def ask_fn (b : Nat) (u : PU) (hu : u.Wf) (w : AI) (hst : St w [b] [(b, J (cU u) 172)] w) : aG prog 345 [P_ b] w [b] (fun v H => v = .int .u8 (askV u) ∧ H = [(b, J (cU (askU u)) 172)]) := by
 have hmr := E2 u
 refine cE func345 hst ?_
 refine bZ ?_
 refine W (aX U U (bN aE (cU_sig hu))) U (ZBy ?_)
 refine RY (Ex (l := [.int .u8 8, .int .u8 16, .int .u8 32, .int .u8 0]) U U U aO) U (nM fun b0 => ?_)
 refine ZEq ?_
 refine aI ?_
 refine RY Ku U (W (aX U U (bN aE (sL hu (j := 1) M))) U (aI ?_))
 refine aP K_ (fun w hw => yT b u hu w (aH aE w hw)) ?_
 refine KL (fun q0 z0 => ?_) (fun q0 z0 => ?_)
 ·refine ZAm ?_
  refine aP K_ (fun w hw => Ey b u hu w (aH aE w hw)) ?_
  refine RY (eG (modeU u).toNat U U U I I) U (W (aX U U (bN aE (aH8 u))) U (ZAm ?_))
  refine KL (fun q1 z1 => ?_) (fun q1 z1 => ?_)
  ·refine iG ?_
   refine W (bF (l' := cU (askU u)) 1 U U U U U U tK (Ni hu (aKX q0 q1))) U (dE ?_)
   refine My ?_
   refine KL (fun q2 z2 => ?_) (fun q2 z2 => ?_)
   ·refine ZBy ?_
    refine KC (fun q3 z3 => ?_) (fun q3 z3 => ?_)
    ·refine ZBn ?_
     exact EV U (bj _ _) ⟨aD _ Ju, U⟩
    exact Vb
   exact Nt
  refine ZA7 ?_
  refine KL (fun q2 z2 => ?_) (fun q2 z2 => ?_)
  ·refine ZBE ?_
   refine aP K_ (fun w hw => aA4 b u hu w (aH aE w hw)) ?_
   refine ZBn ?_
   refine W (bF (l' := cU (askU u)) 1 U U U U U U tK (Ni hu (aP5 q0 q1 q2))) U (dE ?_)
   refine My ?_
   refine KL (fun q3 z3 => ?_) (fun q3 z3 => ?_)
   ·refine ZBy ?_
    refine KC (fun q4 z4 => ?_) (fun q4 z4 => ?_)
    ·refine ZBn ?_
     exact EV U (bj _ _) ⟨aD _ Ju, U⟩
    exact Vb
   exact Nt
  refine ZDG ?_
  refine W (bF (l' := cU (askU u)) 1 U U U U U U tK (Ni hu (aJc q0 q1 q2))) U (dE ?_)
  refine My ?_
  refine KL (fun q3 z3 => ?_) (fun q3 z3 => ?_)
  ·refine ZBy ?_
   refine KC (fun q4 z4 => ?_) (fun q4 z4 => ?_)
   ·refine ZBn ?_
    exact EV U (bj _ _) ⟨aD _ aBm, U⟩
   refine aI ?_
   exact EV U (bj _ _) ⟨aD _ aBm, U⟩
  exact Nt
 refine Bw ?_
 refine W (bF (l' := cU (askU u)) 1 U U U U U U tK (Ni hu (aIZ q0))) U (dE ?_)
 refine My ?_
 refine KL (fun q1 z1 => ?_) (fun q1 z1 => ?_)
 ·refine ZBy ?_
  refine KC (fun q2 z2 => ?_) (fun q2 z2 => ?_)
  ·refine ZBn ?_
   exact EV U (bj _ _) ⟨aD _ Ju, U⟩
  exact Vb
 exact Nt
def A9 (n fr mn : Int) (w : AI) :
  aG prog 415 [.int .i64 n, .int .i64 fr, .int .i64 mn] w [] (V_ (.bool (decide (fr ≤ n) && decide (n < IntKind.i64.wrap (fr + mn))))) := by
 refine aT func415 ?_
 refine bZ ?_
 refine KL (fun h1 h1n => ?_) (fun h1 h1n => ?_)
 ·refine bZ ?_
  exact E0 U ⟨U, by (simp_all; try omega)⟩
 refine bZ ?_
 exact E0 U ⟨U, by (simp_all; try omega)⟩
def aDG (c b f s : Int) (hc : 0 ≤ c ∧ c < 256) (w : AI) :
  aG prog 416 [.agg #[.int .u8 c, .int .u8 b, .int .u8 f, .int .u8 s]] w [] (V_ (.int .i64 (jK c))) := by
 refine aT func416 ?_
 refine aU ?_
 refine RX (eM U U) U ?_
 rintro _ _ ⟨b1, rfl, rfl⟩
 refine cL ?_
 refine KC (fun h1 h1n => ?_) (fun h1 h1n => ?_)
 ·refine cY ?_
  exact E0 U ⟨U, aD _ (P4 hc (b := true) h1)⟩
 refine dO ?_
 exact E0 U ⟨U, aD _ (P4 hc (b := false) h1)⟩
def Qm (a : AC) (cap : Nat) (l : AB) (n : Int) (hn : 0 ≤ n) (w : AI) (hB : Ns w .u8 a l) :
  aG prog 420 [.slice a l.length cap, .int .i64 n] w [] (V_ (.int .u8 (nN l n))) := by
 refine aT func420 ?_
 refine bZ ?_
 refine RY fY U (RY (vD U U) U (aU ?_))
 refine KC (fun h1 h1n => ?_) (fun h1 h1n => ?_)
 ·refine cY ?_
  exact E0 U ⟨U, aD _ (aOR eL)⟩
 refine aU ?_
 obtain ⟨b, off, rfl, hr⟩ := hB.row (i := n.toNat) eL
 refine bU ?_
 refine RY (eB n.toNat U U U eL eL) U (W (aX U U (cB (hr.int eL) aL)) U (bU ?_))
 exact E0 U ⟨U, aD _ (aN6 eL)⟩
def wX (a : AC) (cap : Nat) (l : AB) (hl : bE l) (tile x y : Int) (w : AI) (hB : Ns w .u8 a l) :
  aG prog 421 [.slice a l.length cap, .int .i64 tile, .int .i64 x, .int .i64 y] w [] (V_ (.int .u8 (oK l tile x y))) := by
 refine aT func421 ?_
 refine bZ ?_
 refine KL (fun h1 h1n => ?_) (fun h1 h1n => ?_)
 ·refine cL ?_
  exact E0 U ⟨U, aD _ (aBJ eL)⟩
 refine eK ?_
 refine KC (fun h2 h2n => ?_) (fun h2 h2n => ?_)
 ·refine cY ?_
  exact E0 U ⟨U, aD _ (aBJ eL)⟩
 refine Bw ?_
 refine DR [] (bW [0, 2, 6, 12, 14, 16, 20, 5, 8, 10, 19, 22, 24, 26, 28, 30]) ?_
 refine gF ?_
 refine DZ U (dG K_ U (fun w hw => Qm _ _ l _ (aJb y eL) w (hB.later0 hw))) U aW (DY U (iV U U (aCo x)) U (bG ?_))
 refine DZ U (dG K_ U (fun w hw => Qm _ _ l _ (aHW y eL) w (hB.later0 hw))) U aW (DY U (iV U U (aCo x)) U (bG ?_))
 refine DY U (iM U U M) U (eK ?_)
 exact E0 U ⟨U, aD _ (aGm hl _ _ eL)⟩
def Eh (p c : Int) (hp : 0 ≤ p ∧ p < 256) (hc : 0 ≤ c ∧ c < 256) (w : AI) :
  aG prog 419 [.int .u8 p, .int .u8 c] w [] (V_ (.int .u8 (rY p c))) := by
 refine aT func419 ?_
 refine lZ ?_
 exact E0 U ⟨U, aD _ (aHa hp hc)⟩
def aBR (v : Vw) (hv : v.Ok) (b : Int) (hb : 0 ≤ b ∧ b < 256) (w : AI) :
  aG prog 422 [.agg (cV v).toArray, .int .u8 b] w [] (fun v' H => H = [] ∧ v' = .int .i64 (wY v.c b)) := by
 refine aT func422 ?_
 refine aU ?_
 refine RX (eM U U) U ?_
 rintro _ _ ⟨b2, rfl, rfl⟩
 refine cL ?_
 refine KC (fun h1 h1n => ?_) (fun h1 h1n => ?_)
 ·refine gF ?_
  exact E0 U ⟨U, aD _ (aHY hv.c hb h1)⟩
 refine cL ?_
 exact E0 U ⟨U, aD _ (aOJ hv.c hb h1)⟩
def aCJ (a : AC) (cap : Nat) (l : AB) (hl : bE l)(v : Vw) (hv : v.Ok) (n bit px py : Int) (hbit : (aQ .u8 v.c bit != 0) = decide (eE v.c n = 1)) (hpx : 0 ≤ px ∧ px < 256) (hpy : 0 ≤ py ∧ py < 256) (w : AI) (hB : Ns w .u8 a l) :
  aG prog 414 [.agg (cV v).toArray, .slice a l.length cap, .int .u8 bit, .int .u8 px, .int .u8 py] w [] (fun v' H => H = [] ∧ v' = .int .u8 (zQ l v.c n px py)) := by
 obtain ⟨hvc, hvx, hvy, hwx, hwy⟩ := id hv
 refine aT func414 ?_
 refine aU ?_
 refine RX (eM U U) U ?_
 rintro _ _ ⟨b5, rfl, rfl⟩
 refine lZ ?_
 refine KC (fun h1 h1n => ?_) (fun h1 h1n => ?_)
 ·refine bA ?_
  refine RW (v := (.int .u8 (py / 8))) U U (aD _ (Lr hpy)) (RW (v := (.int .i64 (py / 8))) U U (aD _ (bY I I)) (RW (v := (.int .i64 (32 * (py / 8)))) U U (aD _ (bY I I)) (RW (v := (.int .i64 (7168 + 32 * (py / 8)))) U U (aD _ (bY I I)) ?_)))
  refine bG ?_
  refine RW (v := (.int .u8 (px / 8))) U U (aD _ (Lr hpx)) (RW (v := (.int .i64 (px / 8))) U U (aD _ (bY I I)) (RW (v := (.int .i64 (7168 + 32 * (py / 8) + px / 8))) U U (aD _ (bY I I)) (W (dG K_ U (fun w hw => Qm _ _ l _ I w (hB.later0 hw))) U ?_)))
  refine cY ?_
  refine W (bX U U U sK) U (bG ?_)
  refine aP K_ (aS (aBR v hv _ (Rf hl _))) ?_
  refine bG ?_
  refine RW (v := (.int .i64 (px))) U U (aD _ (bY I I)) (bG ?_)
  refine RW (v := (.int .i64 (py))) U U (aD _ (bY I I)) (aP K_ (fun w hw => wX _ _ l hl _ _ _ w (hB.later0 hw)) ?_)
  refine bU ?_
  exact E0 U ⟨U, aD _ (aFE (by have h9 := hbit.symm.trans h1; simpa using h9)).symm⟩
 refine dO ?_
 refine RW (v := (.int .u8 (py / 8))) U U (aD _ (Lr hpy)) (RW (v := (.int .i64 (py / 8))) U U (aD _ (bY I I)) (RW (v := (.int .i64 (32 * (py / 8)))) U U (aD _ (bY I I)) (RW (v := (.int .i64 (6144 + 32 * (py / 8)))) U U (aD _ (bY I I)) ?_)))
 refine bG ?_
 refine RW (v := (.int .u8 (px / 8))) U U (aD _ (Lr hpx)) (RW (v := (.int .i64 (px / 8))) U U (aD _ (bY I I)) (RW (v := (.int .i64 (6144 + 32 * (py / 8) + px / 8))) U U (aD _ (bY I I)) (W (dG K_ U (fun w hw => Qm _ _ l _ I w (hB.later0 hw))) U ?_)))
 refine cY ?_
 refine W (bX U U U sK) U (bG ?_)
 refine aP K_ (aS (aBR v hv _ (Rf hl _))) ?_
 refine bG ?_
 refine RW (v := (.int .i64 (px))) U U (aD _ (bY I I)) (bG ?_)
 refine RW (v := (.int .i64 (py))) U U (aD _ (bY I I)) (aP K_ (fun w hw => wX _ _ l hl _ _ _ w (hB.later0 hw)) ?_)
 refine bU ?_
 exact E0 U ⟨U, aD _ (aJj (by have h9 := hbit.symm.trans h1; simpa using h9)).symm⟩
def aQY (a : AC) (cap : Nat) (l : AB) (hl : bE l)(v : Vw) (hv : v.Ok)(x y : Int) (w : AI) (hB : Ns w .u8 a l) :
  aG prog 406 [.agg (cV v).toArray, .slice a l.length cap, .int .i64 x, .int .i64 y] w [] (fun v' H => H = [] ∧ v' = .int .u8 (Sz l v x y)) := by
 refine aT func406 ?_
 refine aU ?_
 refine RX (eM U U) U ?_
 rintro _ _ ⟨b4, rfl, rfl⟩
 refine eK ?_
 refine W (bX U U U sK) U (aU ?_)
 refine RW (v := (.int .u8 (x % 256))) U U (aD _ (nQ _)) (bG ?_)
 refine RW (v := (.int .u8 (y % 256))) U U (aD _ (nQ _)) (aP K_ (fun w hw => aCJ _ _ l hl v hv 6 64 _ _ (aB8 hv.c) (Rk _) (Rk _) w (hB.later0 hw)) ?_)
 refine bU ?_
 exact E0 U ⟨U, U⟩
def Z7 (a : AC) (cap : Nat) (l : AB) (hl : bE l)(v : Vw) (hv : v.Ok)(x y : Int) (w : AI) (hB : Ns w .u8 a l) :
  aG prog 407 [.agg (cV v).toArray, .slice a l.length cap, .int .i64 x, .int .i64 y] w [] (fun v' H => H = [] ∧ v' = .int .u8 (Mx l v x y)) := by
 refine aT func407 ?_
 refine aU ?_
 refine RX (eM U U) U ?_
 rintro _ _ ⟨b4, rfl, rfl⟩
 refine eK ?_
 refine W (bX U U U sK) U (aU ?_)
 refine RW (v := (.int .u8 (x % 256))) U U (aD _ (nQ _)) (aU ?_)
 refine RW (v := (.int .u8 ((x + v.sx) % 256))) U U (aD _ (by rw [nQ]; omega)) (bG ?_)
 refine RW (v := (.int .u8 (y % 256))) U U (aD _ (nQ _)) (aU ?_)
 refine RW (v := (.int .u8 ((y + v.sy) % 256))) U U (aD _ (by rw [nQ]; omega)) (aP K_ (fun w hw => aCJ _ _ l hl v hv 3 8 _ _ (aJ3 hv.c) (Rk _) (Rk _) w (hB.later0 hw)) ?_)
 refine bU ?_
 exact E0 U ⟨U, U⟩
def tline_fn (a : AC) (cap : Nat) (l : AB) (hl : bE l)(v : Vw) (hv : v.Ok) (line own : Int) (w : AI) (hB : Ns w .u8 a l) :
  aG prog 400 [.agg (cV v).toArray, .slice a l.length cap, .int .i64 line, .int .i64 own] w [] (fun v' H => H = [] ∧ v' = .tuple #[.agg ((Aw l v line own).map (.int .u8)).toArray, .bool (pD v line)]) := by
 obtain ⟨hvc, hvx, hvy, hwx, hwy⟩ := id hv
 refine aT func400 ?_
 refine aU ?_
 refine RX (eM U U) U ?_
 rintro _ _ ⟨b4, rfl, rfl⟩
 refine RX (gG (l := List.replicate 160 (.int .u8 0)) aO) U ?_
 rintro _ _ ⟨b8, rfl, rfl⟩
 refine eK ?_
 refine RX (gG (l := List.replicate 160 (.int .u8 0)) aO) U ?_
 rintro _ _ ⟨b10, rfl, rfl⟩
 refine bZ ?_
 refine KC (fun h1 h1n => ?_) (fun h1 h1n => ?_)
 ·refine aU ?_
  refine W (bX U U U (aH (.head _))) U (W (hQ (vs := List.replicate 160 (.int .u8 0)) (l := List.replicate 160 (.int .u8 0)) 1 U U U aO aO U aL) U (bU ?_))
  exact aZ (fun w hw => gK (l := List.replicate 160 (.int .u8 0)) U U aO (aH (.tail _ (.head _)) w hw) U) ⟨U, by rw [aKo (W9 hv.c h1), aMA (W9 hv.c h1), jo]⟩
 refine bG ?_
 refine Sl [11, 19, 20, 21, 22, 23, 24, 25, 26, 27, 28, 29, 30, 31, 32, 33, 34] [(11, .bool (pD v line))] ?_ (fun y4 => ?_)
 ·refine cY ?_
  refine KL (fun h2 h2n => ?_) (fun h2 h2n => ?_)
  ·refine aU ?_
   refine RW (v := (.int .i64 (v.wy))) U U (aD _ (bY I I)) (bU ?_)
   refine KL (fun h3 h3n => ?_) (fun h3 h3n => ?_)
   ·refine dO ?_
    exact ⟨.cons (aD _ (aLR hv h1 h2 h3)) .nil, bJ, fun _ h => h⟩
   refine dO ?_
   exact ⟨.cons (aD _ (aGW h3)) .nil, bJ, fun _ h => h⟩
  refine lS ?_
  exact ⟨.cons (aD _ (aOx hv h2)) .nil, bJ, fun _ h => h⟩
 refine aU ?_
 have h1on := aI5 hv.c h1
 refine eK ?_
 refine dV (σ := Nat) [12, 13, 35, 36, 37, 38, 39, 40, 41, 42, 43, 44, 45, 46, 47, 48, 49, 50, 51, 52, 53, 54, 55, 56, 57, 58, 59, 60, 61, 62, 63] (fun k => [(35, .int .i64 k)]) (fun k => [(b10, J (nO .u8 (pB l v line own) 160 k) 168), (b8, J (List.replicate 160 (.int .u8 0)) 168), (b4, J (cV v) 493)]) (fun k => k ≤ 160) (fun k => 160 - k) 0 ?_ ?_ ?_ ?_
 ·show 0 ≤ 160; omega
 ·exact .cons U .nil
 ·exact fun w h => by rw [← aDE]; exact h
 intro k y hk
 refine cY ?_
 refine KC (fun h4 h4n => ?_) (fun h4 h4n => ?_)
 ·refine iG ?_
  refine RW (v := (.int .i64 ((k : Int) + 7))) U U (aD _ (bY I I)) (aU ?_)
  refine RW (v := (.int .i64 (v.wx))) U U (aD _ (bY I I)) (RW (v := (.int .i64 ((k : Int) + 7 - v.wx))) U U (aD _ (bY I I)) (dO ?_))
  refine KL (fun h5 h5n => ?_) (fun h5 h5n => ?_)
  ·refine eK ?_
   refine KC (fun h6 h6n => ?_) (fun h6 h6n => ?_)
   ·refine bU ?_
    refine W (bX U U U sK) U (bU ?_)
    refine aP K_ (fun w hw => aQY _ _ l hl v hv _ _ w (hB.later0 hw)) ?_
    refine RY (Jy k U U U U aM) U (W (hQ 0 U U U U U U Xs) U ?_)
    rw [ak, Mj (f := pB l v line own) aM _ (aJW h1on (by simpa using h5) (by simpa using h6))]
    refine bU ?_
    refine RW (v := (.int .i64 ((k + 1 : Nat) : Int))) U U (aD _ (eX I)) (aU ?_)
    exact ⟨k + 1, gS, gS, .cons U .nil, bJ, fun _ h => h⟩
   refine bU ?_
   refine W (bX U U U sK) U (bU ?_)
   refine aP K_ (fun w hw => Z7 _ _ l hl v hv _ _ w (hB.later0 hw)) ?_
   refine RY (Jy k U U U U aM) U (W (hQ 0 U U U U U U Xs) U ?_)
   rw [ak, Mj (f := pB l v line own) aM _ (aB9 h1on (by intro h0; have h1 := h0.2; simp at h6; omega))]
   refine aU ?_
   refine RW (v := (.int .i64 ((k + 1 : Nat) : Int))) U U (aD _ (eX I)) (aU ?_)
   exact ⟨k + 1, gS, gS, .cons U .nil, bJ, fun _ h => h⟩
  refine bA ?_
  refine W (bX U U U sK) U (bU ?_)
  refine aP K_ (fun w hw => Z7 _ _ l hl v hv _ _ w (hB.later0 hw)) ?_
  refine RY (Jy k U U U U aM) U (W (hQ 0 U U U U U U Xs) U ?_)
  rw [ak, Mj (f := pB l v line own) aM _ (aB9 h1on (by intro h0; rw [h0.1] at h5; cases h5))]
  refine aU ?_
  refine RW (v := (.int .i64 ((k + 1 : Nat) : Int))) U U (aD _ (eX I)) (aU ?_)
  exact ⟨k + 1, gS, gS, .cons U .nil, bJ, fun _ h => h⟩
 refine aU ?_
 obtain rfl : k = 160 := by (try simp only [al, ah, ci, aq, cr, ar, ne_eq] at *); omega
 refine bG ?_
 refine W (bX U U Fc (aH (.head _))) U (bG ?_)
 refine W (hQ (vs := (nO .u8 (pB l v line own) 160 160)) (l := List.replicate 160 (.int .u8 0)) 1 U U U Fc (aEx _ _ _ _) U Rb) U ?_
 rw [Cb Rb]
 refine bU ?_
 exact aZ (fun w hw => gK (l := (nO .u8 (pB l v line own) 160 160)) U U Fc (aH (.tail _ (.head _)) w hw) U) ⟨U, by rw [aPl]⟩
def aCL (a : AC) (cap : Nat) (l : AB) (hl : bE l) (n : Int) (hn : 0 ≤ n ∧ n < 40) (hcap : l.length ≤ cap) (w : AI) (hB : Ns w .u8 a l) :
  aG prog 409 [.slice a l.length cap, .int .i64 n] w [] (V_ (.agg #[.int .i64 n, .int .i64 (oB l n 0 - 16), .int .i64 (oB l n 1 - 8), .int .i64 (oB l n 2), .int .u8 (oB l n 3)])) := by
 refine aT func409 ?_
 refine aU ?_
 refine RX (gG U) U ?_
 rintro _ _ ⟨b4, rfl, rfl⟩
 refine bU ?_
 refine RX (gG U) U ?_
 rintro _ _ ⟨b5, rfl, rfl⟩
 refine dO ?_
 rw [bY (n := 4 * n) I I]
 refine dO ?_
 refine RY fY U (aU ?_)
 refine KC (fun h1 h1n => ?_) (fun h1 h1n => ?_)
 ·obtain ⟨b, off, rfl, hr⟩ := hB.row (i := (4 * n).toNat) eL
  refine DR [] (bW [0, 2, 4, 6, 9]) ?_
  refine DY U (pC 0 4 U U U U U U M M) U (aU ?_)
  refine DY U (mB (4 * n).toNat l.length U U U U (by show 4 * n = _; omega) U eL hcap) U (DZ U (D1 (off := 0) (dl := 4) (m := l.length - (4 * n).toNat) 0 U U U U U (fun w hw => .row _ _ _ _ _ aL ((cG hr aL w hw).cut1 (k := l.length - (4 * n).toNat) (c := cap) eL)) (aMu _ _ _ _) lA) U aW ?_)
  simp only [ak, aIw hn eL]
  refine eK ?_
  refine RY zA U (bU ?_)
  refine RY Ku U (bU ?_)
  refine RY Pi U (aU ?_)
  refine RY Eo U (bG ?_)
  refine RS ?_
  refine W iB U (aU ?_)
  exact aZ (fun w hw => eW U U U (aH aE w hw)) ⟨U, U6 hl n⟩
 refine aU ?_
 rw [aF5 hn eL]
 refine aU ?_
 refine RY zA U (bU ?_)
 refine RY Ku U (bU ?_)
 refine RY Pi U (aU ?_)
 refine RY Eo U (bG ?_)
 refine RS ?_
 refine W iB U (aU ?_)
 exact aZ (fun w hw => eW U U U (aH aE w hw)) ⟨U, U6 hl n⟩
def aQZ (c cb cf cs : Int) (hc : 0 ≤ c ∧ c < 256) (a : AC) (cap : Nat) (l : AB) (hl : bE l) (n y x0 tile how x line : Int)
  (hy : -16 ≤ y ∧ y ≤ 240) (hx : -8 ≤ x0 ∧ x0 ≤ 248) (ht : 0 ≤ tile ∧ tile < 256) (hh : 0 ≤ how ∧ how < 256) (w : AI) (hB : Ns w .u8 a l) :
  aG prog 418 [.agg #[.int .u8 c, .int .u8 cb, .int .u8 cf, .int .u8 cs], .slice a l.length cap, .agg #[.int .i64 n, .int .i64 y, .int .i64 x0, .int .i64 tile, .int .u8 how], .int .i64 x, .int .i64 line] w [] (V_ (.int .u8 (qI l c y x0 tile how x line))) := by
 refine aT func418 ?_
 refine aU ?_
 refine RX (eM U U) U ?_
 rintro _ _ ⟨b5, rfl, rfl⟩
 refine RX (eM U U) U ?_
 rintro _ _ ⟨b7, rfl, rfl⟩
 refine eK ?_
 refine W (bX U U U Vl) U (aP K_ (aS (aDG c cb cf cs hc)) ?_)
 refine bZ ?_
 refine aP K_ (aS (A9 _ _ _)) ?_
 refine bG ?_
 refine KL (fun h1 h1n => ?_) (fun h1 h1n => ?_)
 ·refine lS ?_
  exact E0 U ⟨U, aD _ (aEd hy hx eL)⟩
 refine bU ?_
 refine aP K_ (aS (A9 _ _ _)) ?_
 refine bU ?_
 refine KC (fun h2 h2n => ?_) (fun h2 h2n => ?_)
 ·refine cY ?_
  exact E0 U ⟨U, aD _ (aEd hy hx eL)⟩
 refine aU ?_
 refine DR [4, 5, 6, 7, 8] (bW [0, 2, 4, 6, 8, 10, 12, 14, 16, 18]) ?_
 refine Bw ?_
 refine KC (fun h3 h3n => ?_) (fun h3 h3n => ?_)
 ·refine lZ ?_
  refine KC (fun h4 h4n => ?_) (fun h4 h4n => ?_)
  ·refine xN ?_
   refine KC (fun h5 h5n => ?_) (fun h5 h5n => ?_)
   ·refine jN ?_
    refine aP K_ (fun w hw => wX _ _ l hl _ _ _ w (hB.later0 hw)) ?_
    refine bU ?_
    exact E0 U ⟨U, aD _ (zU hy hx ht hh eL eL (bu := true) (bt := true) (bh := true) h3 h4 h5)⟩
   refine gF ?_
   refine aP K_ (fun w hw => wX _ _ l hl _ _ _ w (hB.later0 hw)) ?_
   refine bU ?_
   exact E0 U ⟨U, aD _ (zU hy hx ht hh eL eL (bu := true) (bt := true) (bh := false) h3 h4 h5)⟩
  refine lS ?_
  refine KC (fun h6 h6n => ?_) (fun h6 h6n => ?_)
  ·refine jN ?_
   refine aP K_ (fun w hw => wX _ _ l hl _ _ _ w (hB.later0 hw)) ?_
   refine bU ?_
   exact E0 U ⟨U, aD _ (zU hy hx ht hh eL eL (bu := true) (bt := false) (bh := true) h3 h4 h6)⟩
  refine gF ?_
  refine aP K_ (fun w hw => wX _ _ l hl _ _ _ w (hB.later0 hw)) ?_
  refine bU ?_
  exact E0 U ⟨U, aD _ (zU hy hx ht hh eL eL (bu := true) (bt := false) (bh := false) h3 h4 h6)⟩
 refine bZ ?_
 refine KC (fun h7 h7n => ?_) (fun h7 h7n => ?_)
 ·refine xN ?_
  refine KC (fun h8 h8n => ?_) (fun h8 h8n => ?_)
  ·refine jN ?_
   refine aP K_ (fun w hw => wX _ _ l hl _ _ _ w (hB.later0 hw)) ?_
   refine bU ?_
   exact E0 U ⟨U, aD _ (zU hy hx ht hh eL eL (bu := false) (bt := true) (bh := true) h3 h7 h8)⟩
  refine gF ?_
  refine aP K_ (fun w hw => wX _ _ l hl _ _ _ w (hB.later0 hw)) ?_
  refine bU ?_
  exact E0 U ⟨U, aD _ (zU hy hx ht hh eL eL (bu := false) (bt := true) (bh := false) h3 h7 h8)⟩
 refine lS ?_
 refine KC (fun h9 h9n => ?_) (fun h9 h9n => ?_)
 ·refine jN ?_
  refine aP K_ (fun w hw => wX _ _ l hl _ _ _ w (hB.later0 hw)) ?_
  refine bU ?_
  exact E0 U ⟨U, aD _ (zU hy hx ht hh eL eL (bu := false) (bt := false) (bh := true) h3 h7 h9)⟩
 refine gF ?_
 refine aP K_ (fun w hw => wX _ _ l hl _ _ _ w (hB.later0 hw)) ?_
 refine bU ?_
 exact E0 U ⟨U, aD _ (zU hy hx ht hh eL eL (bu := false) (bt := false) (bh := false) h3 h7 h9)⟩
def aNJ (c cb cf cs : Int) (hc : 0 ≤ c ∧ c < 256) (a2 : AC) (cap2 : Nat) (oam : AB) (ho : bE oam) (line : Int) (hcap : oam.length ≤ cap2) (w : AI) (hO : Ns w .u8 a2 oam) :
  aG prog 408 [.agg #[.int .u8 c, .int .u8 cb, .int .u8 cf, .int .u8 cs], .slice a2 oam.length cap2, .int .i64 line] w [] (fun v H => Aj .i64 (qR oam c line) v H) := by
 refine aT func408 ?_
 refine aU ?_
 refine RX (eM U U) U ?_
 rintro _ _ ⟨b3, rfl, rfl⟩
 refine fJ ?_
 refine dV (σ := Nat × AH × aF) [7, 8, 9, 10, 11, 12, 13, 14, 15, 16, 17, 18, 19, 20, 21, 22, 23, 24] (fun s => [(7, s.2.1), (9, .int .i64 s.1)]) (fun s => s.2.2 ++ [(b3, J [.int .u8 c, .int .u8 cb, .int .u8 cf, .int .u8 cs] 495)]) (fun s => s.1 ≤ 40 ∧ bM 3 1 s.2.1 (jP oam c line s.1).length ((jP oam c line s.1).map (.int .i64)) s.2.2) (fun s => 40 - s.1) (0, .slice none 0 0, []) ?_ ?_ ?_ ?_
 ·exact ⟨aR, aOv oam c line⟩
 ·exact .cons U (.cons U .nil)
 ·exact fun _ h => h
 rintro ⟨k, v, G⟩ y ⟨hk, hV⟩
 have hlen := aIJ oam c line k
 simp only at hk hV ⊢
 refine cY ?_
 refine KC (fun h1 h1n => ?_) (fun h1 h1n => ?_)
 ·refine bZ ?_
  refine DR [3, 4] (bW [0, 2, 4, 10, 7, 8, 13, 15]) ?_
  refine bU ?_
  refine gL U U U U Na U U ?_
  refine DZ U (dG K_ U (fun w hw => aCL _ _ oam ho k eL hcap w (hO.later0 hw))) U jB (DY U (B5 U U U U U) U (DZ U (dG K_ U (aS (aDG c cb cf cs hc))) U aW (DZ U (dG K_ U (aS (A9 _ _ _))) U aW ?_)))
  refine bG ?_
  refine KC (fun h2 h2n => ?_) (fun h2 h2n => ?_)
  ·refine bG ?_
   refine Mf (v := v) U U U ?_
   refine bG ?_
   refine RX (eQ U U U U U U) U ?_
   rintro _ _ ⟨b22, rfl, rfl⟩
   refine RX (mO (A := [_]) (G := G) (R := [_]) (v := v) (m := 1) (by_ := 8) U U U U hV (fun w hw => .row _ _ _ _ _ U (aH (.head _) w hw)) U I I) U ?_
   rintro v23 _ ⟨G', hV', hnil, rfl⟩
   refine wE (v := v23) U U U ?_
   refine cY ?_
   exact ⟨(k + 1, v23, G'), ⟨Bp, aKe (aCF ho h2) hV'⟩, Bp, .cons U (.cons (aD _ (eX I)) .nil), bJ, (fun _ h => h.sub Jx)⟩
  refine cY ?_
  exact ⟨(k + 1, v, G), ⟨Bp, aNW (aCF ho h2) hV⟩, Bp, .cons U (.cons (aD _ (eX I)) .nil), bJ, (fun _ h => h.sub Jx)⟩
 refine aU ?_
 obtain rfl : k = 40 := by simp at *; omega
 generalize hm : (jP oam c line 40).length = m at hV
 generalize hx : (jP oam c line 40).map (Value.int .i64) = xs at hV
 clear hlen
 rcases hV with _ | ⟨b, n, cap, xs, sp, hn, hcc, hmx, hle⟩
 ·refine bU ?_
  refine RY fY U (RY (vD U U) U (eK ?_))
  exact E0 U (aJI hm)
 refine bU ?_
 refine RY fY U (RY (vD U U) U (RY (mB 0 (min m 10) U U U U U (by show min (m : Int) 10 = _; omega) I I) U (bU ?_)))
 exact EV U (cj _ _) (aGB hm hx hle)
def aDf (x : Int) (w : AI) : aG prog 231 [.int .i64 x] w [] (V_ (.bool false)) := by
 refine aT func231 ?_
 refine fJ ?_
 exact E0 U ⟨U, (aD _ aL)⟩
def aG0 (x y : Int) (w : AI) : aG prog 207 [.int .i64 x, .int .i64 y] w [] (V_ (.int .i64 (cmpI x y))) := by
 refine aT func207 ?_
 refine ZDG ?_
 refine aP K_ (aS (aDf _)) ?_
 refine ZBn ?_
 refine aP K_ (aS (aDf _)) ?_
 refine J6 ?_
 refine KC (fun q0 z0 => ?_) (fun q0 z0 => ?_)
 ·refine ZBn ?_
  exact E0 U ⟨U, (aD _ L8)⟩
 refine bA ?_
 refine KC (fun q1 z1 => ?_) (fun q1 z1 => ?_)
 ·refine ZBn ?_
  exact E0 U ⟨U, (aD _ L8)⟩
 refine aI ?_
 exact E0 U ⟨U, (aD _ L8)⟩
def aP2 (a b : Sp) (w : AI) : aG prog 411 [.agg (lQ a).toArray, .agg (lQ b).toArray] w [] (V_ (.int .i64 (cmpI a.x b.x))) := by
 refine aT func411 ?_
 refine ZAm ?_
 refine RX (eM U U) U (ZBN fun b0 => ?_)
 refine RX (eM U U) U ?_
 rintro _ _ ⟨b1, rfl, rfl⟩
 refine bA ?_
 refine aP K_ (aS (aG0 _ _)) ?_
 exact fN
def aNV (b n cap : Nat) (l : List Sp) (sp' : AA) (hn : l.length = n) (h10 : n ≤ 1000) (w : AI) (hb : w.heap[b]? = some (J (aN lQ l ++ sp') 505)) :
  aG prog 423 [.slice (Q_ b) n cap, .int .i64 0, .int .i64 n, .func (.func 411) #[] #[]] w [b] (fun v H => v = .tuple #[] ∧ H = [(b, J (aN lQ (jI l) ++ sp') 505)]) := by
 refine yI func423 U U U (St.lent1 hb) ?_
 refine gF ?_
 refine dV (σ := Nat) [8, 9, 12, 13, 14, 15, 16, 17, 18, 19, 20, 21, 22, 23, 24, 25, 26, 27, 28, 29, 30, 31, 32, 33, 34, 35, 36, 37, 38, 39, 40, 41, 42, 43, 44, 45, 46, 47, 48, 49, 50, 51, 52] (fun i => [(8, .int .i64 i)]) (fun i => [(b, J (aN lQ (jI (l.take i) ++ l.drop i) ++ sp') 505)]) (fun i => 1 ≤ i ∧ (i ≤ n ∨ i = 1)) (fun i => n - i) 1 ?_ ?_ ?_ ?_
 ·exact ⟨aR, .inr U⟩
 ·exact .cons U .nil
 ·exact fun w h => by rw [aKQ]; exact h
 rintro i y ⟨hi1, hi2⟩
 refine gF ?_
 refine KC (fun h1 h1n => ?_) (fun h1 h1n => ?_)
 ·refine eK ?_
  have hin : i < n := by simp at *; omega
  have hlt : i < l.length := by omega
  obtain ⟨e, R, hd, hR, hI⟩ : ∃ e R, l.drop i = e :: R ∧ R = l.drop (i + 1) ∧ jI (l.take (i + 1)) = kH e (jI (l.take i)).reverse [] := ⟨l[i], l.drop (i + 1), gh hlt, rfl, aOB hlt⟩
  have hS : (jI (l.take i)).length = i := by rw [aDl, fZ]; omega
  refine cY ?_
  refine dV (σ := List Sp × List Sp) [9, 18, 19, 20, 21, 22, 23, 24, 25, 26, 27, 28, 29, 30, 31, 32, 33, 34, 35, 36, 37, 38, 39, 40, 41, 42, 43, 44, 45, 46, 47, 48, 49, 50, 51, 52] (fun s => [(9, .int .i64 s.1.length)]) (fun s => [(b, J (aN lQ (s.1 ++ e :: (s.2 ++ R)) ++ sp') 505)]) (fun s => kH e s.1.reverse s.2 = kH e (jI (l.take i)).reverse [] ∧ s.1.length + s.2.length = i) (fun s => s.1.length) (jI (l.take i), []) ?_ ?_ ?_ ?_
  ·exact ⟨U, hS⟩
  ·exact .cons (aD (fun k : Nat => Value.int .i64 k) hS.symm) .nil
  ·exact fun w h => by rw [hd] at h; exact h
  rintro ⟨A, B⟩ y2 ⟨hI2, hAB⟩
  simp only at hI2 hAB ⊢
  refine aU ?_
  refine DR [9, 10, 11, 12, 13] (bW [0, 2, 4, 6, 8, 10, 12, 14, 16, 18, 20, 22, 24, 26, 29, 30, 32]) ?_
  refine bU ?_
  refine KE (fun h2 h2n => ?_) (fun h2 h2n => ?_)
  ·obtain ⟨A', x, rfl⟩ := H4 (l := A) eL
   refine bU ?_
   refine DY U (fO (s := 5) (A' ++ [x]).length U U U U eL) U (gL U U U U (fun w hS => aK.elem tC (kN (.head _) w hS)) U U ?_)
   refine aU ?_
   refine DW (v := (.int .i64 (A'.length : Int))) U U U (aD _ (Mv eL)) (DY U (fO (s := 5) A'.length U U U U eL) U (gL U U U U (fun w hS => aK.elem2 tC (kN (.head _) w hS)) U U ?_))
   refine DZ U (Iy (A := []) (B := []) U K_ U (aS (aP2 e x))) U aW (bU ?_)
   refine KC (fun h3 h3n => ?_) (fun h3 h3n => ?_)
   ·refine bU ?_
    refine DR [10, 11, 12, 13] (bW [0, 2, 4, 6, 8, 10, 12, 14, 16, 18, 20, 22, 24, 26, 28, 31, 32, 35]) ?_
    refine eK ?_
    refine DW (v := (.int .i64 (A'.length : Int))) U U U (aD _ (Mv eL)) (aU ?_)
    refine DW (v := (.int .i64 (A'.length : Int))) U U U (aD _ (Mv eL)) (DY U (fO (s := 5) A'.length U U U U eL) U (gL U U U U (fun w hS => aK.elem2 tC (kN (.head _) w hS)) U U ?_))
    refine aU ?_
    refine DY U (fO (s := 5) (A' ++ [x]).length U U U U eL) U (gL U U U U (fun w hS => aK.elem tC (kN (.head _) w hS)) U U ?_)
    refine DY U (fO (s := 5) (A' ++ [x]).length U U U U eL) U (DZ U (hQ (vs := lQ x) 0 U U U U U U (T5 tC _ _ _ _ _)) U aW ?_)
    rw [ak, aNz tC]
    refine DY U (fO (s := 5) A'.length U U U U eL) U (DZ U (hQ (vs := lQ e) 0 U U U U U U (T5 tC _ _ _ _ _)) U aW ?_)
    rw [ak, Vi tC]
    refine bU ?_
    refine RW (v := (.int .i64 (A'.length : Int))) U U (aD _ (Mv eL)) (aU ?_)
    exact ⟨(A', x :: B), ⟨by rw [← aQP e x A' B (by have h0 := h3; rw [aCN] at h0; simpa using h0)]; exact hI2, Bp⟩, kW, .cons U .nil, bJ, fun _ h => h⟩
   refine dO ?_
   exact ⟨i + 1, ⟨aR, .inl I⟩, aR, .cons (aD _ (eX I)) .nil, bJ, fun w h => by rw [aBM (.inr ⟨A', x, rfl, by have h0 := h3; rw [aCN] at h0; simpa using h0⟩) hI2, ← hI, hR] at h; exact h⟩
  refine cL ?_
  refine N1 U U U ?_
  refine cL ?_
  exact ⟨i + 1, ⟨aR, .inl I⟩, aR, .cons (aD _ (eX I)) .nil, bJ, fun w h => by rw [aBM (.inl (dg eL)) hI2, ← hI, hR] at h; exact h⟩
 refine bG ?_
 exact EN aJ ⟨U, by rw [aGl eL]⟩
def aMX (w : AI) :
  aG prog 423 [.slice none 0 0, .int .i64 0, .int .i64 0, .func (.func 411) #[] #[]] w [] (V_ (.tuple #[])) := by
 refine aT func423 ?_
 refine gF ?_
 refine uV (σ := Unit) [8, 9, 12, 13, 14, 15, 16, 17, 18, 19, 20, 21, 22, 23, 24, 25, 26, 27, 28, 29, 30, 31, 32, 33, 34, 35, 36, 37, 38, 39, 40, 41, 42, 43, 44, 45, 46, 47, 48, 49, 50, 51, 52] (fun _ => [(8, .int .i64 1)]) (fun _ => True) (fun _ => 0) () ?_ ?_ ?_
 ·trivial
 ·exact .cons U .nil
 rintro _ y _
 refine cY ?_
 refine gO false U U U M ?_
 refine bU ?_
 exact aZ (fun _ _ => nK) ⟨U, U⟩
def aOS (b n cap : Nat) (l : List Sp) (sp' : AA) (hn : l.length = n) (h10 : n ≤ 10) (w : AI) (hb : w.heap[b]? = some (J (aN lQ l ++ sp') 505)) :
  aG prog 417 [.slice (Q_ b) n cap, .int .i64 n, .func (.func 411) #[] #[]] w [b] (fun v H => v = .tuple #[] ∧ H = [(b, J (aN lQ (jI l) ++ sp') 505)]) := by
 refine yI func417 U U U (St.lent1 hb) ?_
 refine fJ ?_
 refine uV (σ := Unit) [7, 8, 11, 12, 13, 14, 15, 16, 17, 18, 19, 20, 21, 22] (fun _ => [(7, .int .i64 0), (8, .int .i64 20)]) (fun _ => True) (fun _ => 0) () ?_ ?_ ?_
 ·trivial
 ·exact .cons U (.cons U .nil)
 rintro _ y _
 refine cY ?_
 refine gO false U U U lA ?_
 refine bZ ?_
 refine RX (kM (A := [_]) (G := []) [b] K_ U aL (fun w hw => aNV b n cap l sp' hn I w (hw.own_blk (.head _)))) U ?_
 rintro _ _ ⟨_, ⟨rfl, rfl⟩, rfl⟩
 refine aU ?_
 refine uV (σ := Unit) [6, 7, 8, 9, 28, 29, 30, 31, 32, 33, 34, 35, 36, 37, 38, 39, 40, 41, 42, 43, 44, 45, 46, 47, 48, 49, 50, 51, 52, 53, 54, 55, 56, 57, 58, 59, 60, 61, 62] (fun _ => [(6, .int .i64 20)]) (fun _ => True) (fun _ => 0) () ?_ ?_ ?_
 ·trivial
 ·exact .cons U .nil
 rintro _ y _
 refine cY ?_
 refine gO false U U U lA ?_
 refine bU ?_
 exact EN aJ ⟨U, U⟩
def aIA (w : AI) :
  aG prog 417 [.slice none 0 0, .int .i64 0, .func (.func 411) #[] #[]] w [] (V_ (.tuple #[])) := by
 refine aT func417 ?_
 refine fJ ?_
 refine uV (σ := Unit) [7, 8, 11, 12, 13, 14, 15, 16, 17, 18, 19, 20, 21, 22] (fun _ => [(7, .int .i64 0), (8, .int .i64 20)]) (fun _ => True) (fun _ => 0) () ?_ ?_ ?_
 ·trivial
 ·exact .cons U (.cons U .nil)
 rintro _ y _
 refine cY ?_
 refine gO false U U U M ?_
 refine bZ ?_
 refine aP K_ (aS aMX) ?_
 refine aU ?_
 refine uV (σ := Unit) [6, 7, 8, 9, 28, 29, 30, 31, 32, 33, 34, 35, 36, 37, 38, 39, 40, 41, 42, 43, 44, 45, 46, 47, 48, 49, 50, 51, 52, 53, 54, 55, 56, 57, 58, 59, 60, 61, 62] (fun _ => [(6, .int .i64 20)]) (fun _ => True) (fun _ => 0) () ?_ ?_ ?_
 ·trivial
 ·exact .cons U .nil
 rintro _ y _
 refine cY ?_
 refine gO false U U U M ?_
 refine bU ?_
 exact aZ (fun _ _ => nK) ⟨U, U⟩
def aFD (b n cap : Nat) (l : List Sp) (sp' : AA) (hn : l.length = n) (h10 : n ≤ 10) (w : AI) (hb : w.heap[b]? = some (J (aN lQ l ++ sp') 505)) :
  aG prog 410 [.slice (Q_ b) n cap, .func (.func 411) #[] #[]] w [b] (fun v H => v = .tuple #[] ∧ H = [(b, J (aN lQ (jI l) ++ sp') 505)]) := by
 refine yI func410 U U U (St.lent1 hb) ?_
 refine bU ?_
 refine RY fY U (bG ?_)
 refine RX (kM (A := [_]) (G := []) [b] K_ U aL (fun w hw => aOS b n cap l sp' hn h10 w (hw.own_blk (.head _)))) U ?_
 rintro _ _ ⟨_, ⟨rfl, rfl⟩, rfl⟩
 refine bG ?_
 exact EN aJ ⟨U, U⟩
def aLK (w : AI) :
  aG prog 410 [.slice none 0 0, .func (.func 411) #[] #[]] w [] (V_ (.tuple #[])) := by
 refine aT func410 ?_
 refine bU ?_
 refine RY fY U (bG ?_)
 refine aP K_ (aS aIA) ?_
 refine bG ?_
 exact aZ (fun _ _ => nK) ⟨U, U⟩
def aNP {v : AH} {n : Nat} {l : List Sp} {G : aF} (hV : bM 505 5 v n (aN lQ l) G) (h10 : n ≤ 10) (w : AI) (hG : ∀ x ∈ G, w.heap[x.1]? = some x.2) :
  aG prog 410 [v, .func (.func 411) #[] #[]] w (G.map (·.1)) (fun u H => u = .tuple #[] ∧ bM 505 5 v n (aN lQ (jI l)) H) := by
 have hl := hV.len
 rw [gM tC] at hl
 generalize hx : aN lQ l = xs at hV
 cases hV with
 | nil =>
  have : l = [] := dg I
  subst this
  exact (aLK w).mono fun u H ⟨h1, h2⟩ => by subst h1; exact ⟨h2, .nil⟩
 | row b _ cap _ sp h1 h2 h3 h4 =>
  subst hx
  refine (aFD b n cap l sp I h10 w (hG _ (.head _))).mono fun u H ⟨h5, h6⟩ => ?_
  subst h6
  have hi := aDl l
  have h7 := gM tC (jI l)
  have h8 := gM tC l
  exact ⟨h5, .row b n cap _ sp (by rw [h7, hi]; omega) (by rw [bQ, h7, hi] ; rw [bQ, h8] at h2; omega) h3 h4⟩
def aP4 (c cb cf cs : Int) (hc : 0 ≤ c ∧ c < 256) (hcb : 0 ≤ cb ∧ cb < 256) (hcf : 0 ≤ cf ∧ cf < 256) (hcs : 0 ≤ cs ∧ cs < 256) (a a2 : AC) (cap cap2 n : Nat) (l : AB) (hl : bE l) (L : List Sp) (hL : L.length = n) (hok : ∀ s ∈ L, vC s) (h1000 : n ≤ 1000) (x line below : Int) (hb : 0 ≤ below ∧ below < 256)
  (w : AI) (hB : Ns w .u8 a l) (hE : iY w lQ a2 L) :
  aG prog 412 [.agg #[.int .u8 c, .int .u8 cb, .int .u8 cf, .int .u8 cs], .slice a l.length cap, .slice a2 n cap2, .int .i64 x, .int .i64 line, .int .u8 below] w [] (V_ (.int .u8 (vK l c cb cf cs x line below (L.find? (rD l c x line))))) := by
 refine aT func412 ?_
 refine aU ?_
 refine RX (eM U U) U ?_
 rintro _ _ ⟨b6, rfl, rfl⟩
 refine dO ?_
 refine RY fY U (bU ?_)
 refine dV (σ := Nat) [12, 14, 15, 18, 19, 20, 21, 22, 23, 24, 25, 26, 27, 28, 29, 30, 31, 32, 33, 34, 35, 36, 37, 38, 39, 40, 41, 42, 43, 44, 45, 46, 47, 48, 49, 50, 51, 52, 53, 54, 55, 56, 57, 58] (fun k => [(18, .int .i64 k)]) (fun _ => [(b6, J [.int .u8 c, .int .u8 cb, .int .u8 cf, .int .u8 cs] 495)]) (fun k => k ≤ n ∧ (L.take k).find? (rD l c x line) = none) (fun k => n - k) 0 ?_ ?_ ?_ ?_
 ·exact ⟨av _, U⟩
 ·exact .cons U .nil
 ·exact fun _ h => h
 rintro k y ⟨hk, hk2⟩
 refine cY ?_
 refine KC (fun h1 h1n => ?_) (fun h1 h1n => ?_)
 ·refine eK ?_
  have hkn : k < n := by simp at *; omega
  obtain ⟨b, off, rfl, hr⟩ := hE.row (i := k) I
  obtain ⟨s, hs⟩ : ∃ s, L[k]? = some s := ⟨_, am I⟩
  have hso := hok s (cw hs)
  refine bG ?_
  refine RY (fO (s := 5) k U U U U hkn) U (W (bX U U U (cG (hr.nth' tC hs) aL)) U (RX (gG U) U ?_))
  rintro _ _ ⟨b14, rfl, rfl⟩
  refine W iB U (bU ?_)
  refine W (bX U U U Vl) U (bG ?_)
  refine W (bX U U U sK) U (aU ?_)
  refine aP K_ (fun w hw => aQZ c cb cf cs hc _ _ l hl s.n s.y s.x s.t s.h x line hso.1 hso.2.1 hso.2.2.1 hso.2.2.2 w (hB.later0 hw)) ?_
  refine cL ?_
  refine KC (fun h2 h2n => ?_) (fun h2 h2n => ?_)
  ·refine cY ?_
   exact ⟨k + 1, ⟨aR, aQx hk2 hs (by have h0 := h2; simp at h0; simp [rD, h0])⟩, aR, .cons (aD _ (eX I)) .nil, bJ, (fun _ h => h.sub Jx)⟩
  refine dO ?_
  refine KL (fun h3 h3n => ?_) (fun h3 h3n => ?_)
  ·refine dO ?_
   refine KC (fun h4 h4n => ?_) (fun h4 h4n => ?_)
   ·refine cY ?_
    refine aP K_ (aS (Eh cb _ hcb hb)) ?_
    refine bU ?_
    exact E0 U ⟨U, (aD _ (aGZ hs hso hb hk2 h2 h3 h4))⟩
   refine bA ?_
   refine KC (fun h5 h5n => ?_) (fun h5 h5n => ?_)
   ·refine cY ?_
    refine aP K_ (aS (Eh cs _ hcs (Qg _ _ _ _ _ _ _ _))) ?_
    refine bU ?_
    exact E0 U ⟨U, (aD _ (Ua (b4 := true) hs hso hb hk2 h2 (.inr h4) h5))⟩
   refine dO ?_
   refine aP K_ (aS (Eh cf _ hcf (Qg _ _ _ _ _ _ _ _))) ?_
   refine bU ?_
   exact E0 U ⟨U, (aD _ (Ua (b4 := false) hs hso hb hk2 h2 (.inr h4) h5))⟩
  refine lZ ?_
  refine KC (fun h6 h6n => ?_) (fun h6 h6n => ?_)
  ·refine cY ?_
   refine aP K_ (aS (Eh cs _ hcs (Qg _ _ _ _ _ _ _ _))) ?_
   refine bU ?_
   exact E0 U ⟨U, (aD _ (Ua (b4 := true) hs hso hb hk2 h2 (.inl h3) h6))⟩
  refine dO ?_
  refine aP K_ (aS (Eh cf _ hcf (Qg _ _ _ _ _ _ _ _))) ?_
  refine bU ?_
  exact E0 U ⟨U, (aD _ (Ua (b4 := false) hs hso hb hk2 h2 (.inl h3) h6))⟩
 refine dO ?_
 refine aP K_ (aS (Eh cb _ hcb hb)) ?_
 refine bU ?_
 exact E0 U ⟨U, (aD _ (aKk (k := k) eL hk2))⟩
set_option maxHeartbeats 2000000 in
def line_fn (c cb cf cs : Int) (hc : 0 ≤ c ∧ c < 256) (hcb : 0 ≤ cb ∧ cb < 256) (hcf : 0 ≤ cf ∧ cf < 256) (hcs : 0 ≤ cs ∧ cs < 256) (a a2 : AC) (cap cap2 : Nat) (l oam : AB) (hl : bE l) (ho : bE oam) (hcap : oam.length ≤ cap2) (line : Int) (bl : AB) (hbl : bl.length = 160) (hbb : bE bl)
  (w : AI) (hB : Ns w .u8 a l) (hO : Ns w .u8 a2 oam) :
  aG prog 401 [.agg #[.int .u8 c, .int .u8 cb, .int .u8 cf, .int .u8 cs], .slice a l.length cap, .slice a2 oam.length cap2, .int .i64 line, .agg (bl.map (.int .u8)).toArray] w [] (V_ (.agg (Zb l oam c cb cf cs line bl).toArray)) := by
 refine aT func401 ?_
 refine aU ?_
 refine RX (eM U U) U ?_
 rintro _ _ ⟨b5, rfl, rfl⟩
 refine RX (eM (l := bl.map (.int .u8)) U U) U ?_
 rintro _ _ ⟨b9, rfl, rfl⟩
 refine RX (gG (l := List.replicate 160 (.int .u8 0)) aO) U ?_
 rintro _ _ ⟨b10, rfl, rfl⟩
 refine cY ?_
 refine rR (σ := AH × aF) [11, 13, 16, 17, 18, 19, 20, 21, 22, 23, 24, 25, 26, 27, 28, 29, 30, 31, 32, 33, 34, 35] (fun s => [(11, s.1)]) (fun s => s.2 ++ [(b10, J (List.replicate 160 (.int .u8 0)) 168), (b9, J (bl.map (.int .u8)) 168), (b5, J [.int .u8 c, .int .u8 cb, .int .u8 cf, .int .u8 cs] 495)]) (fun s => bM 505 5 s.1 (rM oam c line).length (aN lQ (rM oam c line)) s.2) ?_ ?_
 ·refine gF ?_
  refine KC (fun h1 h1n => ?_) (fun h1 h1n => ?_)
  ·refine aU ?_
   refine W (bX U U U Vl) U (aU ?_)
   refine RX (cQ K_ U (fun w hw => aNJ c cb cf cs hc _ _ oam ho line hcap w (hO.later0 hw))) U ?_
   rintro _ _ ⟨G23, ⟨a23, c23, rfl, hc23, hL23⟩, rfl⟩
   refine RY fY U (bU ?_)
   refine dV (σ := Nat × AH × aF) [11, 13, 25, 26, 27, 28, 29, 30, 31, 32, 33, 34, 35] (fun s => [(11, s.2.1), (25, .int .i64 s.1)]) (fun s => s.2.2 ++ (G23 ++ [(b10, J (List.replicate 160 (.int .u8 0)) 168), (b9, J (bl.map (.int .u8)) 168), (b5, J [.int .u8 c, .int .u8 cb, .int .u8 cf, .int .u8 cs] 495)])) (fun s => s.1 ≤ (qR oam c line).length ∧ bM 505 5 s.2.1 s.1 (aN lQ (((qR oam c line).take s.1).map (sp oam))) s.2.2) (fun s => (qR oam c line).length - s.1) (0, .slice none 0 0, []) ?_ ?_ ?_ ?_
   ·exact ⟨av _, .nil⟩
   ·exact .cons U (.cons U .nil)
   ·exact fun _ h => h
   rintro ⟨k, v, G⟩ y ⟨hk, hV⟩
   simp only at hk hV ⊢
   have h10 := aAh oam c line
   refine cY ?_
   refine KC (fun h2 h2n => ?_) (fun h2 h2n => ?_)
   ·refine eK ?_
    have hkn : k < (qR oam c line).length := by simp at *; omega
    obtain ⟨b, off, rfl, hr⟩ := hL23.row (i := k) hkn
    refine bG ?_
    refine RY (eB k U U U U hkn) U (W (aX U U (aNN hr (by intro x hx; simp [hx]) hkn)) U (bU ?_))
    refine Mf (v := v) U U U ?_
    refine aU ?_
    refine aP K_ (fun w hw => aCL _ _ oam ho _ (aJV _ (aMY hkn)) hcap w (hO.later0 hw)) ?_
    refine RX (eQ U U U U U U) U ?_
    rintro _ _ ⟨b33, rfl, rfl⟩
    refine RX (mO (A := [_]) (G := G) (R := _) (v := v) (m := 1) (by_ := 40) U U U U hV (fun w hw => .row _ _ _ _ _ U (aH (.head _) w hw)) U I I) U ?_
    rintro v34 _ ⟨G', hV', hnil, rfl⟩
    refine wE (v := v34) U U U ?_
    refine cY ?_
    exact ⟨(k + 1, v34, G'), ⟨aR, by rw [aJv hkn]; exact hV'⟩, aR, .cons U (.cons (aD _ (eX I)) .nil), bJ, (fun _ h => h.sub Jx)⟩
   refine bG ?_
   obtain rfl : k = (qR oam c line).length := by simp at *; omega
   exact ⟨(v, G), by rw [aI1 hc h1, eD]; rw [dq] at hV; exact hV, .cons U .nil, bJ, fun w h => h.sub (aJ.append (ew _ _))⟩
  refine bG ?_
  exact ⟨(.slice none 0 0, []), by rw [aIg hc h1]; exact .nil, .cons U .nil, bJ, fun w h => h⟩
 rintro ⟨v, G⟩ y2 hV
 simp only at hV ⊢
 obtain ⟨a11, c11, rfl⟩ := hV.slice
 refine bU ?_
 refine RX (kM (A := G) (G := _) (G.map (·.1)) K_ U (fun b h => jS h) (fun w hw => aNP hV (aBS oam c line) w (fun x hx => hw.holds x (by simp [hx])))) U ?_
 rintro _ _ ⟨G', ⟨rfl, hV'⟩, rfl⟩
 obtain ⟨a1', c1', he, hn11, hc11, hE⟩ := hV'.gives tC M
 cases he
 refine aU ?_
 refine kG (fun w h => h.perm bg) ?_
 refine bG ?_
 refine RX (gG (l := List.replicate 160 (.int .u8 0)) aO) U ?_
 rintro _ _ ⟨b14, rfl, rfl⟩
 refine gF ?_
 refine dV (σ := Nat) [15, 38, 39, 40, 41, 42, 43, 44, 45, 46, 47, 48, 49, 50, 51, 52] (fun k => [(38, .int .i64 k)]) (fun k => (b14, J (nO .u8 (Au l oam c cb cf cs line bl) 160 k) 168) :: ([(b10, J (List.replicate 160 (.int .u8 0)) 168), (b9, J (bl.map (.int .u8)) 168), (b5, J [.int .u8 c, .int .u8 cb, .int .u8 cf, .int .u8 cs] 495)] ++ G')) (fun k => k ≤ 160) (fun k => 160 - k) 0 ?_ ?_ ?_ ?_
 ·show 0 ≤ 160; omega
 ·exact .cons U .nil
 ·exact fun w h => by rw [← aDE]; exact h
 intro k y hk
 refine cY ?_
 refine KC (fun h3 h3n => ?_) (fun h3 h3n => ?_)
 ·refine bA ?_
  refine DR [2, 3, 4, 5, 6, 7, 8] (bW [0, 2, 4, 6, 8, 10, 12, 14, 16, 19, 20, 23]) ?_
  refine bG ?_
  refine gL U U U U Na U U ?_
  refine cY ?_
  refine DY U (Jy k U U U U eL) U (DL U U U (eN (.tail _ (.tail _ (.head _))) (aCm eL)) U (DZ U (dG K_ U (fun w hw => aP4 c cb cf cs hc hcb hcf hcs _ _ _ _ _ l hl (jI (rM oam c line)) hn11 (aGY ho c line) (by have := aBS oam c line; omega) (k : Int) line _ (hbb.get k) w (hB.later0 hw) (hE.els hw (by intro x hx; simp [hx])))) U aW (DY U (Jy k U U U U eL) U ?_)))
  refine DZ U (hQ 0 U U U U U U (by rw [Ur eL]; simp at *; omega)) U aW ?_
  rw [ak, Mj (f := Au l oam c cb cf cs line bl) eL (vK l c cb cf cs (k : Int) line (bl.getD k 0) ((jI (rM oam c line)).find? (rD l c (k : Int) line))) rfl]
  refine cY ?_
  exact ⟨k + 1, Bp, Bp, .cons (aD _ (eX I)) .nil, bJ, fun _ h => h⟩
 refine aU ?_
 obtain rfl : k = 160 := by simp at *; omega
 refine bG ?_
 refine W (bX U U Fc (aH (.head _))) U (W (hQ (vs := (nO .u8 (Au l oam c cb cf cs line bl) 160 160)) (l := List.replicate 160 (.int .u8 0)) 1 U U U Fc (aEx _ _ _ _) U Rb) U ?_)
 rw [Cb Rb]
 refine aU ?_
 exact aZ (fun w hw => eW (l := (nO .u8 (Au l oam c cb cf cs line bl) 160 160)) U U Fc (aH (.tail _ (.head _)) w hw)) ⟨U, by rw [aDw]; rfl⟩
set_option maxHeartbeats 2000000 in
def aJi (b : Nat) (u : PU) (hu : u.Wf) (w : AI) (hst : St w [b] [(b, J (cU u) 172)] w) (hl : u.line < 144) (ho : u.own < 600) : aG prog 344 [P_ b] w [b] (fun v H => v = .tuple #[] ∧ H = [(b, J (cU (sC u)) 172)]) := by
 have hlb := hu.line
 have hob := hu.own
 refine cE func344 hst ?_
 refine bA ?_
 refine DR [4, 5, 6, 7, 8, 9, 10, 11, 12, 13, 14, 15, 16, 17, 18, 19, 21] (bW [0, 2, 4, 6, 8, 10, 12, 14, 16, 18, 20, 22, 24, 26, 28, 30, 32, 34, 36, 38, 40, 43, 45]) ?_
 refine ZAm ?_
 refine DY U zA U (DL U U U (eN aE (sL hu (j := 0) M)) U (ZAm ?_))
 refine DY U Eo U (DL U U U (eN aE (sL hu (j := 3) M)) U (ZAm ?_))
 refine DY U Pi U (DL U U U (eN aE (sL hu (j := 2) M)) U (ZAm ?_))
 refine DY U (by first | exact eG 11 rfl rfl rfl rfl M | exact eB 11 rfl rfl rfl rfl M | exact iP 11 rfl rfl rfl rfl M | exact fO 11 rfl rfl rfl rfl M) U (DL U U U (eN aE (sL hu (j := 11) M)) U (ZAm ?_))
 refine DY U (by first | exact eG 10 rfl rfl rfl rfl M | exact eB 10 rfl rfl rfl rfl M | exact iP 10 rfl rfl rfl rfl M | exact fO 10 rfl rfl rfl rfl M) U (DL U U U (eN aE (sL hu (j := 10) M)) U (ZEG ?_))
 refine DX U (gG U) U tM (ZBN fun b0 => ?_)
 refine DZ U iB U aW (ZAm ?_)
 refine DR [4, 5, 6, 7, 8, 9, 10, 11, 12, 13, 14, 15, 17] (bW [0, 2, 4, 6, 8, 10, 12, 14, 16, 18, 20, 22, 24, 26, 28, 30, 32, 35, 37]) ?_
 refine ZAm ?_
 refine DY U zA U (DL U U U (eN aE (sL hu (j := 0) M)) U (ZAm ?_))
 refine DY U (by first | exact eG 7 rfl rfl rfl rfl M | exact eB 7 rfl rfl rfl rfl M | exact iP 7 rfl rfl rfl rfl M | exact fO 7 rfl rfl rfl rfl M) U (DL U U U (eN aE (sL hu (j := 7) M)) U (ZAm ?_))
 refine DY U (by first | exact eG 8 rfl rfl rfl rfl M | exact eB 8 rfl rfl rfl rfl M | exact iP 8 rfl rfl rfl rfl M | exact fO 8 rfl rfl rfl rfl M) U (DL U U U (eN aE (sL hu (j := 8) M)) U (ZAm ?_))
 refine DY U (by first | exact eG 9 rfl rfl rfl rfl M | exact eB 9 rfl rfl rfl rfl M | exact iP 9 rfl rfl rfl rfl M | exact fO 9 rfl rfl rfl rfl M) U (DL U U U (eN aE (sL hu (j := 9) M)) U (ZEG ?_))
 refine DX U (gG U) U tM ?_
 rintro _ _ ⟨b1, rfl, rfl⟩
 refine DZ U iB U aW (ZAm ?_)
 refine DR [1, 2, 3, 4, 5, 6, 7, 8, 9, 10, 11, 12, 17] (.step true 0 (.step true 1 (.step true 2 (.step true 3 (.step true 4 (.step true 5 (.step true 6 (.step true 7 (.step true 8 (.step true 9 (.step true 10 (.step true 11 (.step true 12 (.fork 13 (.step true 14 (.step true 15 (.step true 16 (.step false 17 (.step false 18 (.step true 19 .done)))))) (.fork 17 (.step false 13 (.step true 14 (.step true 15 (.step true 16 (.step false 18 (.step true 19 .done)))))) .stop))))))))))))))) ?_
 refine gL U U U U Le U U ?_
 refine Rw ?_
 refine ZA7 ?_
 refine Jw ?_
 refine ZA7 ?_
 refine DL U U U (eN aE (Qx hu)) U (oD ?_ ?_)
 ·refine ZEN ?_
  refine ZAm ?_
  refine DX U (gG U) U tM ?_
  rintro _ _ ⟨b2, rfl, rfl⟩
  refine DZ U iB U aW (Y4 ?_)
  refine ZBy ?_
  refine Jw ?_
  refine gL U U U U Na U U ?_
  refine Rw ?_
  refine Zm ?_
  refine ZA7 ?_
  refine Jw ?_
  refine gL U U U U aDd U U ?_
  refine ZAm ?_
  refine ZBr ?_
  refine ZCY ?_
  refine dE ?_
  refine ZBn ?_
  refine KC (fun q0 z0 => ?_) (fun q0 z0 => ?_)
  ·refine ZBy ?_
   refine W (aX U U (bN aE (Qx (hu.P_ (u.line.toNat * 160) (rowU_byts u) Jo)))) U (RW (v := (.int .i64 (u.own + 1))) U U (aD _ (bY sV sV)) (ZAm ?_))
   refine W (bF (l' := cU { u with P := iO u.P (u.line.toNat * 160) (rowU u), own := u.own + 1 }) 3 U U U U U U aEV (Fl (hu.P_ (u.line.toNat * 160) (rowU_byts u) Jo) _)) U (dE ?_)
   refine ZBE ?_
   exact EN (.cons _ (.cons _ (.cons _ aJ))) ⟨U, by rw [aDi q0]⟩
  refine ZBE ?_
  exact EN (.cons _ (.cons _ (.cons _ aJ))) ⟨U, by rw [aDR q0]⟩
 refine oD ?_ ?_
 ·refine DX U (gG U) U tM ?_
  rintro _ _ ⟨b2, rfl, rfl⟩
  refine ZEN ?_
  refine ZAm ?_
  refine DZ U iB U aW (Y4 ?_)
  refine ZBy ?_
  refine Jw ?_
  refine gL U U U U Na U U ?_
  refine Rw ?_
  refine Zm ?_
  refine ZA7 ?_
  refine Jw ?_
  refine gL U U U U aDd U U ?_
  refine ZAm ?_
  refine ZBr ?_
  refine ZCY ?_
  refine dE ?_
  refine ZBn ?_
  refine KC (fun q0 z0 => ?_) (fun q0 z0 => ?_)
  ·refine ZBy ?_
   refine W (aX U U (bN aE (Qx (hu.P_ (u.line.toNat * 160) (rowU_byts u) Jo)))) U (RW (v := (.int .i64 (u.own + 1))) U U (aD _ (bY sV sV)) (ZAm ?_))
   refine W (bF (l' := cU { u with P := iO u.P (u.line.toNat * 160) (rowU u), own := u.own + 1 }) 3 U U U U U U aEV (Fl (hu.P_ (u.line.toNat * 160) (rowU_byts u) Jo) _)) U (dE ?_)
   refine ZBE ?_
   exact EN (.cons _ (.cons _ (.cons _ aJ))) ⟨U, by rw [aDi q0]⟩
  refine ZBE ?_
  exact EN (.cons _ (.cons _ (.cons _ aJ))) ⟨U, by rw [aDR q0]⟩
 exact yE
def next_fn (b : Nat) (u : PU) (hu : u.Wf) (w : AI) (hst : St w [b] [(b, J (cU u) 172)] w) (hl : u.line < 154) : aG prog 399 [P_ b] w [b] (fun v H => v = .int .u8 (Al u) ∧ H = [(b, J (cU (pO u)) 172)]) := by
 have hlb := hu.line
 have hfb := hu.frames
 refine cE func399 hst ?_
 refine bZ ?_
 refine W (bF (l' := cU { u with dot := 0 }) 0 U U U U U U tK (Kr hu _)) U (rQ ?_)
 refine W (aX U U (bN aE (cU_line (hu.dot_ (x := 0) M)))) U (RW (v := (.int .i64 (u.line + 1))) U U (aD _ (bY sV sV)) (ZAm ?_))
 refine W (bF (l' := cU { u with dot := 0, line := u.line + 1 }) 0 U U U U U U (by rw [cU_len (hu.dot_ (x := 0) M)]; simp only [eF, ax]; (try simp only [al, ah, ci, aq, cr, ar, ne_eq] at *); omega) (Jk (hu.dot_ (x := 0) M) _)) U (dE ?_)
 refine ZDG ?_
 refine W (aX U U (bN aE (cU_line ((hu.dot_ (x := 0) M).line_ (x := u.line + 1) I)))) U (ZDG ?_)
 refine KC (fun q0 z0 => ?_) (fun q0 z0 => ?_)
 ·refine aI ?_
  refine W (aX U U (bN aE (Yf ((hu.dot_ (x := 0) M).line_ (x := u.line + 1) I)))) U (RW (v := (.int .i64 (u.frames + 1))) U U (aD _ (bY sV sV)) (RW (v := (.int .i64 ((u.frames + 1) % 65536))) U U (aD _ (cn I)) (ZAm ?_)))
  refine W (bF (l' := cU { u with dot := 0, line := u.line + 1, frames := (u.frames + 1) % 65536 }) 0 U U U U U U U2 (aGy ((hu.dot_ (x := 0) M).line_ (x := u.line + 1) I) _)) U (rQ ?_)
  exact EV U aJ ⟨aD _ (by unfold Al; rw [ag aM]), by rw [aDP aM, show u.line + 1 = 144 by (try simp only [al, ah, ci, aq, cr, ar, ne_eq] at *); omega]⟩
 refine ZBn ?_
 refine KC (fun q1 z1 => ?_) (fun q1 z1 => ?_)
 ·refine ZBn ?_
  refine W (bF (l' := cU { u with dot := 0, line := 0 }) 0 U U U U U U U2 (Jk ((hu.dot_ (x := 0) M).line_ (x := u.line + 1) I) _)) U (iI ?_)
  refine W (bF (l' := cU { u with dot := 0, line := 0, own := 0 }) 0 U U U U U U (by rw [cU_len ((hu.dot_ (x := 0) M).line_ (x := 0) M)]; simp only [eF, ax]; (try simp only [al, ah, ci, aq, cr, ar, ne_eq] at *); omega) (Fl ((hu.dot_ (x := 0) M).line_ (x := 0) M) _)) U (rQ ?_)
  exact EV U aJ ⟨aD _ (by unfold Al; rw [ae aM]), by rw [aEM aM]⟩
 refine aI ?_
 exact EV U aJ ⟨aD _ (by unfold Al; rw [ae aM]), by rw [aAy aM aM]⟩
set_option maxHeartbeats 2000000 in
def tick_fn (b : Nat) (u : PU) (hok : u.Ok) (w : AI) (hst : St w [b] [(b, J (cU u) 172)] w) : aG prog 391 [P_ b] w [b] (fun v H => v = .int .u8 (tickV u) ∧ H = [(b, J (cU (tickU u)) 172)]) := by
 have hu := hok.wf
 have hd := hok.dot
 have hlb := hu.line
 have hl154 := hok.line
 have hdb := hu.dot
 have hws := hok.step
 refine cE func391 hst ?_
 refine iG ?_
 refine aP K_ (fun w hw => yT b u hu w (aH aE w hw)) ?_
 refine ZA7 ?_
 refine KC (fun q0 z0 => ?_) (fun q0 z0 => ?_)
 ·refine ZBn ?_
  exact EV U aJ ⟨aD _ (by unfold tickV; rw [ae tN]), by unfold tickU; rw [ae tN]⟩
 refine cL ?_
 refine W (aX U U (bN aE (cU_dot hu))) U (RW (v := (.int .i64 (u.dot + 1))) U U (aD _ (bY I I)) (ZAm ?_))
 refine W (bF (l' := cU (oneU u)) 0 U U U U U U tK (Kr hu _)) U (dE ?_)
 refine bA ?_
 refine Xu ?_
 refine ZBE ?_
 refine KL (fun q1 z1 => ?_) (fun q1 z1 => ?_)
 ·refine ZA7 ?_
  refine W (aX U U (bN aE (show (cU (oneU u))[8364]? = some (.int .i64 u.line) from cU_line (hu.one hd)))) U (ZBy ?_)
  refine KC (fun q2 z2 => ?_) (fun q2 z2 => ?_)
  ·refine ZAm ?_
   refine W (gY K_ U (fun w hw => aJi b (oneU u) (hu.one hd) w (St.lentA hw) (show u.line < 144 by (try simp only [al, ah, ci, aq, cr, ar, ne_eq] at *); omega) hok.own599)) U (ZBn ?_)
   have hs9 : stepU u = sC (oneU u) := Nq aM aM
   refine Ki ?_
   refine ZBy ?_
   have hlit : jD u = true := by simp_all
   exact Vp
  refine ZBn ?_
  refine Xu ?_
  refine ZA7 ?_
  refine KC (fun q3 z3 => ?_) (fun q3 z3 => ?_)
  ·refine Y2 ?_
   refine aI ?_
   have hs9 : stepU u = pO (oneU u) := Ii aM
   refine Ki ?_
   refine ZBy ?_
   have hlit : jD u = true := by simp_all
   have hnv : Al (oneU u) = stepV u := by
    have q4 : u.dot = 113 := aM
    unfold Al stepV oneU; simp [q4]
   exact EV U aJ ⟨aD _ Ya, Vx⟩
  refine ZBn ?_
  have hs9 : stepU u = oneU u := Kj aM aM
  refine Ki ?_
  refine ZBy ?_
  have hlit : jD u = true := by simp_all
  exact Vp
 refine jN ?_
 refine Xu ?_
 refine ZA7 ?_
 refine KC (fun q2 z2 => ?_) (fun q2 z2 => ?_)
 ·refine Y2 ?_
  refine aI ?_
  have hs9 : stepU u = pO (oneU u) := Ii aM
  refine Ki ?_
  refine ZBy ?_
  have hlit : jD u = true := by simp_all
  have hnv : Al (oneU u) = stepV u := by
   have q3 : u.dot = 113 := aM
   unfold Al stepV oneU; simp [q3]
  exact EV U aJ ⟨aD _ Ya, Vx⟩
 refine ZBn ?_
 have hs9 : stepU u = oneU u := Kj aM aM
 refine Ki ?_
 refine ZBy ?_
 have hlit : jD u = true := by simp_all
 exact Vp
def new_fn (w : AI) : aG prog 27 [] w [] (fun v H => ∃ b, v = P_ b ∧ H = [(b, J (cU jV) 172)]) := by
 refine aT func27 ?_
 refine aI ?_
 refine RY (rV (l := cU jV) (z := cU jV) (ps := []) U aO U U) U (RX (eM (l := cU jV) U U) U (ZBN fun b0 => ?_))
 refine ZA7 ?_
 exact EV U aJ ⟨b0, U, U⟩
def peek_fn (b : Nat) (u : PU) (hu : u.Wf) (w : AI) (hr : aK w b 0 (cU u)) (a : Int) (ha : 0 ≤ a ∧ a < 65536) : aG prog 126 [P_ b, .int .u16 a] w [] (V_ (.int .u8 (qX u a))) := by
 have hlb := hu.line
 have hnr := Oi a
 have hmr := E2 u
 refine aT func126 ?_
 refine jN ?_
 rcases Ym ha with ⟨j, hj, rfl⟩ | ⟨j, hj, rfl⟩ | hno
 ·refine yA ?_
  rw [Uw hj]
  refine bZ ?_
  refine iX ?_
  refine aI ?_
  refine W (aX U U (cB (hr _ _ (aPu hu hj)) aL)) U (ZA7 ?_)
  exact E0 U ⟨U, aD _ (aOD hj).symm⟩
 ·refine yA ?_
  rw [M5 hj]
  refine bZ ?_
  refine iX ?_
  refine aI ?_
  refine W (aX U U (cB (pY hr (aGt hu hj)) aL)) U (ZA7 ?_)
  exact E0 U ⟨U, aD _ (aIh hj).symm⟩
 refine yA ?_
 rw [D4 hno]
 refine bZ ?_
 refine jM ?_
 refine aI ?_
 refine aP K_ (aS (aFl _ ha)) ?_
 refine lS ?_
 refine KC (fun q0 z0 => ?_) (fun q0 z0 => ?_)
 ·refine ZBn ?_
  exact E0 U ⟨U, aD _ (by rw [Jb hno, ag aM])⟩
 refine ZBn ?_
 refine KC (fun q1 z1 => ?_) (fun q1 z1 => ?_)
 ·refine ZBn ?_
  refine W (aX U U (cB (pY hr (cU_line hu)) aL)) U (RW (v := (.int .u8 (u.line % 256))) U U (aD _ (nQ _)) (ZA7 ?_))
  exact E0 U ⟨U, aD _ (by rw [Jb hno, ae aM, ag aM])⟩
 refine ZBn ?_
 refine KC (fun q2 z2 => ?_) (fun q2 z2 => ?_)
 ·refine ZBE ?_
  refine DR [7, 8, 9] (bW [0, 2, 4, 6, 8, 10, 12, 14, 17, 18, 20, 22]) ?_
  refine ZBy ?_
  refine DY U (eG (numU a).toNat U U U aM aM) U (DL U U U (gD (pY hr (sL hu (j := (numU a).toNat) aM)) aL) U (ZAm ?_))
  refine DZ U (dG K_ U (fun w hw => Ey b u hu w (cG hr aL w hw))) U jB (DW (v := (.int .u8 (modeU u))) U U U (aD _ (Ja I I)) (DW (v := (.int .u8 (Dl u))) U U U (by have h9 : (numU a).toNat = 1 := aM; rw [h9]; rfl) (aI ?_)))
  refine aP K_ (fun w hw => aA4 b u hu w (cG hr aL w hw)) ?_
  refine ZBE ?_
  refine KC (fun q3 z3 => ?_) (fun q3 z3 => ?_)
  ·refine iG ?_
   exact E0 U ⟨U, aD _ (by rw [Jb hno, ae aM, ae aM, ag aM, ag q3]; try rfl)⟩
  refine ZDG ?_
  exact E0 U ⟨U, aD _ (by rw [Jb hno, ae aM, ae aM, ag aM, ae (by rw [q3]; decide)]; try rfl)⟩
 refine ZDG ?_
 refine RY (eG (numU a).toNat U U U aM aM) U (W (aX U U (cB (pY hr (sL hu (j := (numU a).toNat) aM)) aL)) U (ZA7 ?_))
 exact E0 U ⟨U, aD _ (by rw [Jb hno, ae aM, ae aM, ae aM])⟩
def aNu (b : Nat) (u : PU) (hu : u.Wf) (w : AI) (hr : aK w b 0 (cU u)) (a : Int) (ha : 0 ≤ a ∧ a < 65536) : aG prog 342 [P_ b, .int .u16 a] w [] (V_ (.int .u8 (vS u a))) := by
 refine aT func342 ?_
 refine jN ?_
 rcases Ym ha with ⟨j, hj, rfl⟩ | ⟨j, hj, rfl⟩ | hno
 ·refine yA ?_
  rw [Uw hj]
  refine bZ ?_
  refine iX ?_
  refine ZAm ?_
  refine aP K_ (fun w hw => Ey b u hu w (cG hr aL w hw)) ?_
  refine ZBy ?_
  refine KC (fun q0 z0 => ?_) (fun q0 z0 => ?_)
  ·refine ZBn ?_
   exact E0 U ⟨U, aD _ (by rw [O1 hj, ag aM])⟩
  refine ZBn ?_
  refine F6 ?_
  exact E0 U ⟨U, aD _ (by rw [O1 hj, ae aM])⟩
 ·refine yA ?_
  rw [M5 hj]
  refine bZ ?_
  refine iX ?_
  refine ZAm ?_
  refine aP K_ (fun w hw => Ey b u hu w (cG hr aL w hw)) ?_
  refine ZBy ?_
  refine KC (fun q0 z0 => ?_) (fun q0 z0 => ?_)
  ·refine ZBn ?_
   exact E0 U ⟨U, aD _ (by rw [aEb hj, ag aM])⟩
  refine ZBn ?_
  refine F6 ?_
  exact E0 U ⟨U, aD _ (by rw [aEb hj, ae aM])⟩
 refine yA ?_
 rw [D4 hno]
 refine bZ ?_
 refine jM ?_
 refine lS ?_
 refine F6 ?_
 exact E0 U ⟨U, aD _ (aGe hno).symm⟩
set_option maxHeartbeats 2000000 in
def aQE (b : Nat) (u : PU) (hu : u.Wf) (w : AI) (hst : St w [b] [(b, J (cU u) 172)] w) (a x : Int) (ha : 0 ≤ a ∧ a < 65536) (hx : 0 ≤ x ∧ x < 256) : aG prog 343 [P_ b, .int .u16 a, .int .u8 x] w [b] (fun v H => v = .int .u8 (qO u a x) ∧ H = [(b, J (cU (kZ u a x)) 172)]) := by
 have hnr := Oi a
 refine cE func343 hst ?_
 refine jN ?_
 rcases Ym ha with ⟨j, hj, rfl⟩ | ⟨j, hj, rfl⟩ | hno
 ·refine yA ?_
  rw [Uw hj]
  refine bZ ?_
  refine iX ?_
  refine aI ?_
  refine aP K_ (fun w hw => Ey b u hu w (aH aE w hw)) ?_
  refine ZA7 ?_
  refine KC (fun q0 z0 => ?_) (fun q0 z0 => ?_)
  ·refine ZBy ?_
   refine W (bF (l' := cU { u with V := u.V.set j x }) 0 U U U U U U tK (by rw [cg]; exact aKF hu hj x)) U (rQ ?_)
   exact EV U aJ ⟨aD _ (aBd _ hj).symm, by rw [aE6 _ hj, ag aM]⟩
  refine aI ?_
  exact EV U aJ ⟨aD _ (aBd _ hj).symm, by rw [aE6 _ hj, ae aM]⟩
 ·refine yA ?_
  rw [M5 hj]
  refine bZ ?_
  refine iX ?_
  refine aI ?_
  refine aP K_ (fun w hw => Ey b u hu w (aH aE w hw)) ?_
  refine ZA7 ?_
  refine KC (fun q0 z0 => ?_) (fun q0 z0 => ?_)
  ·refine ZBy ?_
   refine W (bF (l' := cU { u with O := u.O.set j x }) 0 U U U U U U tK (aD2 hu hj x)) U (rQ ?_)
   exact EV U aJ ⟨aD _ (aEl _ hj).symm, by rw [aB2 _ hj, ag aM]⟩
  refine aI ?_
  exact EV U aJ ⟨aD _ (aEl _ hj).symm, by rw [aB2 _ hj, ae aM]⟩
 refine yA ?_
 rw [D4 hno]
 refine bZ ?_
 refine jM ?_
 refine aI ?_
 refine aP K_ (aS (aFl _ ha)) ?_
 refine ZBE ?_
 refine aP K_ (fun w hw => yT b u hu w (aH aE w hw)) ?_
 refine jN ?_
 refine KC (fun q0 z0 => ?_) (fun q0 z0 => ?_)
 ·refine ZBn ?_
  exact EV U aJ ⟨aD _ (aKt _ hno aM).symm, by rw [aQT _ hno aM]⟩
 refine ZBn ?_
 refine KC (fun q1 z1 => ?_) (fun q1 z1 => ?_)
 ·refine ZDG ?_
  refine RY (eG (numU a).toNat U U U aM aM) U (W (bF (l' := cU { u with R := u.R.set 1 (aQ .u8 x 120) }) 0 U U U U U U tK (by rw [show (numU a).toNat = 1 by (try simp only [al, ah, ci, aq, cr, ar, ne_eq] at *); omega]; exact aBA hu (j := 1) M _)) U (dE ?_))
  refine ZBn ?_
  refine KL (fun q2 z2 => ?_) (fun q2 z2 => ?_)
  ·refine ZBE ?_
   refine aP K_ (fun w hw => yT b ({ u with R := u.R.set 1 (aQ .u8 x 120) }) (hu.set1 hx) w (aH aE w hw)) ?_
   refine ZA7 ?_
   refine KC (fun q3 z3 => ?_) (fun q3 z3 => ?_)
   ·refine aI ?_
    refine W (bF (l' := cU ({ ({ u with R := u.R.set 1 (aQ .u8 x 120) } : PU) with line := 0 } : PU)) 0 U U U U U U (by rw [cU_len (hu.set1 hx)]; simp only [eF, ax]; (try simp only [al, ah, ci, aq, cr, ar, ne_eq] at *); omega) (Jk (hu.set1 hx) _)) U (iI ?_)
    refine W (bF (l' := cU ({ ({ u with R := u.R.set 1 (aQ .u8 x 120) } : PU) with line := 0, dot := 0 } : PU)) 0 U U U U U U (by rw [cU_len ((hu.set1 hx).line_ (x := 0) M)]; simp only [eF, ax]; (try simp only [al, ah, ci, aq, cr, ar, ne_eq] at *); omega) (Kr ((hu.set1 hx).line_ (x := 0) M) _)) U (iI ?_)
    refine W (bF (l' := cU ({ ({ u with R := u.R.set 1 (aQ .u8 x 120) } : PU) with line := 0, dot := 0, own := 0 } : PU)) 0 U U U U U U (by rw [cU_len (((hu.set1 hx).line_ (x := 0) M).dot_ (x := 0) M)]; simp only [eF, ax]; (try simp only [al, ah, ci, aq, cr, ar, ne_eq] at *); omega) (Fl (((hu.set1 hx).line_ (x := 0) M).dot_ (x := 0) M) _)) U (dE ?_)
    refine ZBy ?_
    have hs9 : putU u (numU a) x = ({ ({ u with R := u.R.set 1 (aQ .u8 x 120) } : PU) with line := 0, dot := 0, own := 0 } : PU) := by
     unfold putU; rw [set_1 aM]; exact Mt tN tN
    exact Bf
   refine ZBy ?_
   exact ZD3
  refine cL ?_
  exact ZD3
 refine ZBn ?_
 refine KC (fun q2 z2 => ?_) (fun q2 z2 => ?_)
 ·refine ZBn ?_
  refine KL (fun q3 z3 => ?_) (fun q3 z3 => ?_)
  ·refine ZBE ?_
   refine aP K_ (fun w hw => yT b (u) hu w (aH aE w hw)) ?_
   refine ZA7 ?_
   refine KC (fun q4 z4 => ?_) (fun q4 z4 => ?_)
   ·refine aI ?_
    refine W (bF (l' := cU ({ (u : PU) with line := 0 } : PU)) 0 U U U U U U tK (Jk hu _)) U (iI ?_)
    refine W (bF (l' := cU ({ (u : PU) with line := 0, dot := 0 } : PU)) 0 U U U U U U (by rw [cU_len (hu.line_ (x := 0) M)]; simp only [eF, ax]; (try simp only [al, ah, ci, aq, cr, ar, ne_eq] at *); omega) (Kr (hu.line_ (x := 0) M) _)) U (iI ?_)
    refine W (bF (l' := cU ({ (u : PU) with line := 0, dot := 0, own := 0 } : PU)) 0 U U U U U U (by rw [cU_len ((hu.line_ (x := 0) M).dot_ (x := 0) M)]; simp only [eF, ax]; (try simp only [al, ah, ci, aq, cr, ar, ne_eq] at *); omega) (Fl ((hu.line_ (x := 0) M).dot_ (x := 0) M) _)) U (dE ?_)
    refine ZBy ?_
    have hs9 : putU u (numU a) x = ({ (u : PU) with line := 0, dot := 0, own := 0 } : PU) := by
     unfold putU; rw [Ji aM]; exact Mt tN tN
    exact Bf
   refine ZBy ?_
   have hs9 : putU u (numU a) x = u := by
    unfold putU; rw [Ji aM]; exact off_no tN
   exact Bf
  refine cL ?_
  have hs9 : putU u (numU a) x = u := by
   unfold putU; rw [Ji aM]; exact off_no tN
  exact Bf
 refine aI ?_
 refine RY (eG (numU a).toNat U U U aM aM) U (W (bF (l' := cU { u with R := u.R.set (numU a).toNat x }) 0 U U U U U U tK (aBA hu (j := (numU a).toNat) aM x)) U (dE ?_))
 refine ZBn ?_
 refine KL (fun q3 z3 => ?_) (fun q3 z3 => ?_)
 ·refine ZBE ?_
  refine aP K_ (fun w hw => yT b ({ u with R := u.R.set (numU a).toNat x }) (hu.setn hx aM aM) w (aH aE w hw)) ?_
  refine ZA7 ?_
  refine KC (fun q4 z4 => ?_) (fun q4 z4 => ?_)
  ·refine aI ?_
   refine W (bF (l' := cU ({ ({ u with R := u.R.set (numU a).toNat x } : PU) with line := 0 } : PU)) 0 U U U U U U (by rw [cU_len (hu.setn hx aM aM)]; simp only [eF, ax]; (try simp only [al, ah, ci, aq, cr, ar, ne_eq] at *); omega) (Jk (hu.setn hx aM aM) _)) U (iI ?_)
   refine W (bF (l' := cU ({ ({ u with R := u.R.set (numU a).toNat x } : PU) with line := 0, dot := 0 } : PU)) 0 U U U U U U (by rw [cU_len ((hu.setn hx aM aM).line_ (x := 0) M)]; simp only [eF, ax]; (try simp only [al, ah, ci, aq, cr, ar, ne_eq] at *); omega) (Kr ((hu.setn hx aM aM).line_ (x := 0) M) _)) U (iI ?_)
   refine W (bF (l' := cU ({ ({ u with R := u.R.set (numU a).toNat x } : PU) with line := 0, dot := 0, own := 0 } : PU)) 0 U U U U U U (by rw [cU_len (((hu.setn hx aM aM).line_ (x := 0) M).dot_ (x := 0) M)]; simp only [eF, ax]; (try simp only [al, ah, ci, aq, cr, ar, ne_eq] at *); omega) (Fl (((hu.setn hx aM aM).line_ (x := 0) M).dot_ (x := 0) M) _)) U (dE ?_)
   refine ZBy ?_
   have hs9 : putU u (numU a) x = ({ ({ u with R := u.R.set (numU a).toNat x } : PU) with line := 0, dot := 0, own := 0 } : PU) := by
    unfold putU; rw [set_n aM aM]; exact Mt tN tN
   exact Bf
  refine ZBy ?_
  exact ZDy
 refine cL ?_
 exact ZDy
def aOm (b : Nat) (u : PU) (hu : u.Wf) (w : AI) (hst : St w [b] [(b, J (cU u) 172)] w) (n x : Int) (hx : 0 ≤ x ∧ x < 256) : aG prog 389 [P_ b, .int .i64 n, .int .u8 x] w [b] (fun v H => v = .tuple #[] ∧ H = [(b, J (cU (vF u n x)) 172)]) := by
 refine cE func389 hst ?_
 refine bA ?_
 refine KL (fun q0 z0 => ?_) (fun q0 z0 => ?_)
 ·refine ZBy ?_
  refine KC (fun q1 z1 => ?_) (fun q1 z1 => ?_)
  ·refine aI ?_
   refine RY (eG n.toNat U U U aM aM) U (W (bF (l' := cU { u with O := u.O.set n.toNat x }) 0 U U U U U U tK (aD2 hu (j := n.toNat) aM x)) U (dE ?_))
   refine ZBE ?_
   exact EN aJ ⟨U, by unfold vF; rw [ag aM]⟩
  refine ZBE ?_
  exact EN aJ ⟨U, by unfold vF; rw [ae aM]⟩
 refine aI ?_
 exact EN aJ ⟨U, by unfold vF; rw [ae aM]⟩
end Go.Proofs.YthigpmaadmneaaaGreatDoor
