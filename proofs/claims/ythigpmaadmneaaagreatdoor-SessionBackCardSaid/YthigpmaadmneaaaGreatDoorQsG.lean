/- Parts. -/
import Derived.Test.YthigpmaadmneaaaGreatDoorQsF
set_option maxRecDepth 100000
set_option maxHeartbeats 1000000
set_option linter.all false
namespace Go.Proofs.YthigpmaadmneaaaGreatDoor
open Go Go.VV Go.Proofs Go.RowKit Go.Proofs.Tryz
def aPU (n : Nat) (hn : n ≤ 1000000) (w : AI) : aG prog 109 [.slice none 0 0, .int .i64 n] w [] (fun v H => bM 5 1 v 0 [] H) := by
 refine aT func109 ?_
 refine bA ?_
 refine gO false U U U aL ?_
 refine bA ?_
 refine RY (aAP U U) U (ZBE ?_)
 refine gZ ?_
 refine RW (v := (.int .i64 0)) U U U (RW (v := (.int .i64 (n : Int))) U U (aD _ (by rw [Int.sub_zero]; exact bY I I)) (ZDG ?_))
 refine KC (fun q0 z0 => ?_) (fun q0 z0 => ?_)
 ·refine ZA7 ?_
  refine RY (aAP U U) U (RY (Qj 0 U U U U M) U (ZBE ?_))
  refine RX (aMH (n := n) (T := 5) (s := 1) (by_ := 1) U U U U U I hn M) U ?_
  rintro _ _ ⟨b0, cap, sp, rfl, rfl, hsp, hcap, hcm⟩
  refine ZBE ?_
  refine gZ ?_
  refine RY (Qj 0 U U U U I) U (bA ?_)
  exact EV U aJ (.row b0 0 cap [] sp U (by simpa using hsp) hcm (av _))
 refine ZDG ?_
 exact E0 U .nil
def aL5 (b : Nat) (S : List Sg) (w : AI) (hr : aK w b 0 (aN cSg S)) (hn : S.length ≤ 1000) (hs : ∀ s ∈ S, Ns w .u8 s.a s.l ∧ s.l.length ≤ s.c) (hl : (mL S).length ≤ 1000000) :
  aG prog 66 [.slice (Q_ b) S.length S.length] w [] (fun v H => bM 5 1 v (mL S).length ((mL S).map (.int .u8)) H) := by
 refine aT func66 ?_
 refine fJ ?_
 refine RY fY U (bU ?_)
 refine uV (σ := Nat) [3, 5, 11, 12, 13, 14, 15, 16, 17, 18, 19, 20, 21, 22] (fun i => [(3, .int .i64 ((mL (S.take i)).length : Int)), (11, .int .i64 i)]) (fun i => i ≤ S.length) (fun i => S.length - i) 0 ?_ ?_ ?_
 ·exact av _
 ·exact .cons U (.cons U .nil)
 intro i y3 hi
 have hc0 := C8 S i
 refine cY ?_
 refine KC (fun h1 h1n => ?_) (fun h1 h1n => ?_)
 ·refine eK ?_
  obtain ⟨s, hsi⟩ : ∃ s, S[i]? = some s := ⟨_, Pz I⟩
  have hc1 := aFt S i hsi
  have hc2 := C8 S (i + 1)
  have hc3 := aD List.length hc1
  rw [bQ] at hc3
  refine bG ?_
  refine RY (eB i U U U U I) U (W (aX U U (fun w hw => Vr)) U (dO ?_))
  refine RY (aDs (a := s.a) (c := s.c) U U) U (RW (v := (.int .i64 (((mL (S.take i)).length : Int) + (s.l.length : Int)))) U U (aD _ (bY I I)) (cY ?_))
  refine gO false U U U lA ?_
  refine eK ?_
  refine RW (v := (.int .i64 ((i + 1 : Nat) : Int))) U U (aD _ (eX I)) (aU ?_)
  exact ⟨i + 1, aR, aR, .cons (aD (Value.int .i64) (show (((mL (S.take i)).length : Int) + (s.l.length : Int)) = ((mL (S.take (i + 1))).length : Int) by omega)) (.cons U .nil), bJ, fun _ h => h⟩
 refine aU ?_
 obtain rfl : S.length = i := by omega
 rw [dq]
 refine aU ?_
 refine RX (cQ K_ U (aS (aPU _ I))) U ?_
 rintro v24 _ ⟨G24, hV24, rfl⟩
 refine wE (v := v24) U U U ?_
 refine cY ?_
 refine RY fY U (bU ?_)
 refine dV (σ := Nat × AH × aF) [6, 8, 27, 28, 29, 30, 31, 32, 33, 34] (fun s => [(6, s.2.1), (27, .int .i64 s.1)]) (fun s => s.2.2 ++ []) (fun s => s.1 ≤ S.length ∧ bM 5 1 s.2.1 (mL (S.take s.1)).length ((mL (S.take s.1)).map (.int .u8)) s.2.2) (fun s => S.length - s.1) (0, v24, G24) ?_ ?_ ?_ ?_
 ·exact ⟨av _, hV24⟩
 ·exact .cons U (.cons U .nil)
 ·exact fun _ h => h
 rintro ⟨i, v6, G6⟩ y11 ⟨hi, hV6⟩
 dsimp only at hi hV6 ⊢
 obtain ⟨a6, c6, rfl⟩ := hV6.slice
 have hle6 := hV6.cap_le.1
 refine cY ?_
 refine KC (fun h2 h2n => ?_) (fun h2 h2n => ?_)
 ·refine eK ?_
  obtain ⟨s, hsi⟩ : ∃ s, S[i]? = some s := ⟨_, Pz I⟩
  obtain ⟨hsN, hsc⟩ := hs s (cw hsi)
  have hc1 := aFt S i hsi
  have hc2 := C8 S (i + 1)
  have hc3 := aD List.length hc1
  rw [bQ] at hc3
  rcases (show s.l.length = 0 ∨ 0 < s.l.length by omega) with hs0 | hs1
  ·refine bG ?_
   refine RY (eB i U U U U I) U (W (aX U U (fun w hw => Vr)) U (cY ?_))
   refine W (D3 U U hs0 U U hle6) U (bU ?_)
   refine RW (v := (.int .i64 ((i + 1 : Nat) : Int))) U U (aD _ (eX I)) (aU ?_)
   exact ⟨(i + 1, _, G6), ⟨aR, by rw [hc1, dg hs0, aw]; exact hV6⟩, aR, .cons U (.cons U .nil), bJ, fun _ h => h⟩
  refine bG ?_
  refine RY (eB i U U U U I) U (W (aX U U (fun w hw => Vr)) U (cY ?_))
  obtain ⟨bs9, os9, has9, hrs⟩ := hsN hs1
  rw [has9]
  refine RX (vN (A := []) (G := G6 ++ []) (n := (mL (S.take i)).length) (m := s.l.length) (T := 5) (s := 1) (by_ := 1) (ys := s.l.map (.int .u8)) U U U U (by rw [aw]; exact hV6) (fun w hw => .row _ _ _ _ _ aL (cG hrs aL w hw)) (kE _ _) I I) U ?_
  rintro v33 _ ⟨G33, hV33, _, rfl⟩
  obtain ⟨a33, c33, rfl⟩ := hV33.slice
  refine bU ?_
  refine RW (v := (.int .i64 ((i + 1 : Nat) : Int))) U U (aD _ (eX I)) (aU ?_)
  exact ⟨(i + 1, _, G33), ⟨aR, hV33.as hc3.symm (by rw [hc1, bz])⟩, aR, .cons U (.cons U .nil), bJ, fun _ h => h⟩
 refine aU ?_
 obtain rfl : S.length = i := by omega
 refine cY ?_
 exact EV U (cj _ _) (by have h9 := hV6; simp only [dq] at h9 ⊢; exact h9)
def aQA (is : Bool) (w : AI) : aG prog 67 [.bool is] w [] (V_ (.int .u8 (gV is))) := by
 refine aT func67 ?_
 refine bZ ?_
 refine KC (fun q0 z0 => ?_) (fun q0 z0 => ?_)
 ·refine ZBn ?_
  exact E0 U ⟨U, by subst q0; rfl⟩
 refine aI ?_
 exact E0 U ⟨U, by subst q0; rfl⟩
def aEF (b : Nat) (u : PU) (hu : u.Wf) (w : AI) (hr : aK w b 0 (cU u)) : aG prog 30 [P_ b] w [] (fun v H => bM 5 1 v (fQ u).length ((fQ u).map (.int .u8)) H) := by
 have hdb := hu.dot
 have hlb := hu.line
 have hob := hu.own
 have hfb := hu.frames
 refine aT func30 ?_
 refine xN ?_
 refine W (bX U U (by rw [eD, hu.lR]; rfl) (cG (aOy hu hr) aL)) U (nM fun b0 => ?_)
 refine W (bF (l' := u.R.map (.int .u8)) 0 U U U (by rw [eD, hu.lR]; rfl) (kE _ _) U (by rw [eD, hu.lR]; simp) (Cb (by rw [eD, hu.lR]; rfl))) U (aI ?_)
 refine W (aX U U (cB (pY hr (cU_line hu)) aL)) U (RW (gN U U U) U vQ (RY Cm U (W (bF (l' := (r4 u).map (.int .u8)) 0 U U U U U U (by rw [eD, hu.lR]; simp) (vG .u8 (by rw [hu.lR]; decide) _)) U ?_)))
 refine ZAm ?_
 have hl83 := P6 hu b b0
 refine DR [] (bW [0, 2, 4, 6, 8, 10, 12, 14, 16, 18, 21, 23, 24]) ?_
 refine Rw ?_
 refine Zm ?_
 refine DW (v := (.slice (Q_ b0) ((r4 u).take 6).length 12)) U (pC 0 6 U U U U U U M M) U (by rw [fZ, r4_len hu]; rfl) (DW (v := (.slice (some ⟨b0, 7, none⟩) ((r4 u).drop 7).length 5)) U (pC 7 12 U U U U U U M M) U (by rw [dN, r4_len hu]; rfl) (DX U (eQ U U U U U U) U aW ?_))
 rintro _ _ ⟨b1, rfl, rfl⟩
 refine DX U (cQ K_ (vs := [.slice (Q_ b1) 4 4]) U (fun w hw => aL5 b1 (At u b b0) w (aH aE w hw) (by simp [At]) (aHt hu (cG hr aL w hw) (aH aE w hw)) I)) U aW ?_
 rintro v0 _ ⟨G0, hV0, rfl⟩
 obtain ⟨a29, c0, rfl⟩ := hV0.slice
 refine ZA7 ?_
 refine DR [6, 7, 8, 9, 10, 11, 12, 13, 14, 15, 16, 17, 18, 19, 20, 21, 22, 23, 24, 25, 26] (bW [0, 2, 4, 6, 8, 10, 12, 14, 16, 18, 20, 22, 24, 26, 28, 30, 32, 34, 36, 38, 40, 42, 44, 46, 48, 50, 53, 55, 57, 58]) ?_
 refine ZBy ?_
 refine DL U U U (gD (pY hr (cU_dot hu)) aL) U (vW ?_)
 refine ZA7 ?_
 refine DL U U U (gD (pY hr (Qx hu)) aL) U (vW ?_)
 refine ZA7 ?_
 refine DL U U U (gD (pY hr (Yf hu)) aL) U (vW ?_)
 refine ZA7 ?_
 refine DL U U U (gD (pY hr (Yf hu)) aL) U (Ph ?_)
 refine ZA7 ?_
 refine DL U U U (gD (pY hr (cU_sig hu)) aL) U (DZ U (dG K_ U (aS (aQA u.sig))) U jB (DX U (eQ U U U U U U) U aW ?_))
 rintro _ _ ⟨b2, rfl, rfl⟩
 refine jC (H' := [(b2, _)] ++ G0) (fun _ h => St.fl [[_], G0, [_], [_]] [0, 1] U h) ?_
 refine DX U (vN (A := [(b2, J ((sF u).map (.int .u8)) 5)]) (G := G0) (n := (mL (At u b b0)).length) (m := 5) (T := 5) (s := 1) (by_ := 1) (ys := (sF u).map (.int .u8)) U U U U hV0 (fun w hw => .row _ _ _ _ _ U (aH (.head _) w hw)) (kE _ _) I I) U aW ?_
 rintro v1 _ ⟨G1, hV1, _, rfl⟩
 refine aB5 (v := v1) U U U U ?_
 refine ZA7 ?_
 have hV5 : bM 5 1 v1 (vH u).length ((vH u).map (.int .u8)) G1 := hV1.as (by rw [Ye hu, P6 hu]) (by rw [aB7]; simp [vH])
 refine ZBy ?_
 refine dV (σ := Nat × AH × aF) [4, 5, 59, 60, 61, 62, 63, 64, 65, 66, 67, 68, 69, 70] (fun s => [(4, s.2.1), (59, .int .i64 s.1)]) (fun s => s.2.2 ++ []) (fun s => s.1 ≤ 144 ∧ bM 5 1 s.2.1 (vH u ++ u.P.take (s.1 * 160)).length ((vH u ++ u.P.take (s.1 * 160)).map (.int .u8)) s.2.2) (fun s => 144 - s.1) (0, v1, G1) ?_ ?_ ?_ ?_
 ·exact ⟨av _, by simpa using hV5⟩
 ·exact .cons U (.cons U .nil)
 ·exact fun _ h => h.sub (aJ.append (du _))
 rintro ⟨i, v2, G2⟩ y8 ⟨hi, hV2⟩
 dsimp only at hi hV2 ⊢
 obtain ⟨a4, cx1, rfl⟩ := hV2.slice
 have hl4 : (vH u ++ u.P.take (i * 160)).length ≤ 31408 := by rw [bQ, Ye hu, fZ, hu.lP]; omega
 refine ZBn ?_
 refine KC (fun q0 z0 => ?_) (fun q0 z0 => ?_)
 ·refine bA ?_
  have hi144 : i < 144 := by omega
  refine aI ?_
  refine RY (iP (s := 160) i U U U U I) U (RW (v := (.slice (some ⟨b, 8369 + i * 160, none⟩) 160 160)) (pC 0 160 U U U U U U M M) U U (RX (vN (A := []) (G := G2 ++ []) (n := (vH u ++ u.P.take (i * 160)).length) (m := 160) (T := 5) (s := 1) (by_ := 1) (ys := ((u.P.drop (i * 160)).take 160).map (.int .u8)) U U U U (by rw [aw]; exact hV2) (fun w hw => .row _ _ _ _ _ (by rw [eD, fZ, dN, hu.lP]; omega) (cG (aJa hu hr I) aL w hw)) (kE _ _) I I) U ?_))
  rintro v3 _ ⟨G3, hV3, _, rfl⟩
  refine wE (v := v3) U U U ?_
  refine ZAm ?_
  refine jF ?_
  exact ⟨(i + 1, _, G3), ⟨aR, hV3.as (by rw [← H3 u.P i]; simp only [bQ, fZ, dN, hu.lP]; omega) (by rw [← H3 u.P i]; simp)⟩, aR, .cons U (.cons U .nil), bJ, fun _ h => h⟩
 refine ZAm ?_
 obtain rfl : i = 144 := by omega
 refine ZBn ?_
 exact EV U (cj _ _) (hV2.as aAc aAc)
def aHr (x : Int) (w : AI) : aG prog 220 [.int .u8 x] w [] (V_ (.bool (decide (3 < x)))) := by
 refine aT func220 ?_
 refine iG ?_
 exact E0 U ⟨U, U⟩
def aN5 (a : AC) (c : Nat) (l : AB) (hc : l.length ≤ 1000000) (w : AI) (hB : Ns w .u8 a l) :
  aG prog 241 [.slice a l.length c, .func (.func 220) #[] #[]] w [] (fun v H => H = [] ∧ ∃ o, v = .int .i64 o ∧ decide (0 ≤ o) = l.any fun x => decide (3 < x)) := by
 refine aT func241 ?_
 refine bA ?_
 refine RY fY U (bU ?_)
 refine uV (σ := Nat) [4, 5, 8, 9, 10, 11, 12, 13, 14, 15, 16, 17, 18] (fun i => [(8, .int .i64 i)]) (fun i => i ≤ l.length ∧ ∀ j, j < i → ¬ 3 < l.getD j 0) (fun i => l.length - i) 0 ?_ ?_ ?_
 ·exact ⟨av _, fun j hj => aR⟩
 ·exact .cons U .nil
 rintro i y2 ⟨hi, hno⟩
 refine cY ?_
 refine KC (fun h1 h1n => ?_) (fun h1 h1n => ?_)
 ·refine bZ ?_
  obtain ⟨b, off, rfl, hr⟩ := hB.row (i := i) I
  refine eK ?_
  refine RY (eB i U U U U I) U (W (aX U U (cB (hr.int (i := i) I) aL)) U (W (Iy (A := []) (B := []) U K_ U (aS (aHr _))) U (bG ?_)))
  refine KC (fun h2 h2n => ?_) (fun h2 h2n => ?_)
  ·refine dO ?_
   exact E0 U ⟨U, _, U, by rw [aQq (i := i) I (by simpa using h2)]; simp⟩
  refine aU ?_
  refine RW (v := (.int .i64 ((i + 1 : Nat) : Int))) U U (aD _ (eX I)) (aU ?_)
  exact ⟨i + 1, ⟨aR, fun j hj => by
   rcases dt j i with h9 | h9
   ·exact hno j h9
   obtain rfl : j = i := by omega
   simpa using h2⟩, aR, .cons rfl .nil, bJ, fun _ h => h⟩
 refine aU ?_
 obtain rfl : l.length = i := by omega
 refine eK ?_
 exact E0 U ⟨U, _, U, by rw [aJ8 hno]; rfl⟩
def aLj (a : AC) (c : Nat) (l : AB) (hc : l.length ≤ 1000000) (w : AI) (hB : Ns w .u8 a l) :
  aG prog 221 [.slice a l.length c, .func (.func 220) #[] #[]] w [] (V_ (.bool (l.any fun x => decide (3 < x)))) := by
 refine aT func221 ?_
 refine bA ?_
 refine RX (cQ K_ U (fun w hw => aN5 a c l hc w (hB.later0 hw))) U ?_
 rintro _ _ ⟨G7, ⟨rfl, o, rfl, ho⟩, rfl⟩
 refine eK ?_
 exact E0 U ⟨U, aD _ ho⟩
set_option maxHeartbeats 4000000 in
def Wt (b : Nat) (u : PU) (hu : u.Wf) (w : AI) (hst : St w [b] [(b, J (cU u) 172)] w) (a : AC) (c : Nat) (l : AB) (hby : bE l) (hc : l.length ≤ c) (hB : Ns w .u8 a l) (hne : ∀ p, a = some p → p.block ≠ b) :
  aG prog 188 [P_ b, .slice a l.length c] w [b] (fun v H => v = .int .i64 (lK l) ∧ H = [(b, J (cU (lD u l)) 172)]) := by
 refine cE func188 hst ?_
 refine Fy ?_
 refine RY fY U (bU ?_)
 refine KC (fun h1 h1n => ?_) (fun h1 h1n => ?_)
 ·refine cY ?_
  exact EV U aJ ⟨aD _ (X4 I), by rw [Fs (X4 I) M]⟩
 refine aU ?_
 have hl : l.length = 31408 := by omega
 obtain ⟨bb, off, rfl, hr⟩ := hB.row (i := 0) I
 have hab : bb ≠ b := hne _ rfl
 have b1 := hby.get 8356
 have b2 := hby.get 8363
 have b3 := hby.get 8364
 have b4 := hby.get 8365
 have b5' := hby.get 8366
 have b6 := hby.get 8367
 refine bG ?_
 refine RX (gG (l := cU jV) aO) U ?_
 rintro _ _ ⟨b5, rfl, rfl⟩
 refine eK ?_
 refine RW (v := (.slice (Q_ b5) 8192 8192)) (pC 0 8192 U U U U U U M M) U U (bG ?_)
 refine W (Fb (l' := cU (z1 l)) (m := l.length) (ys := l.map (.int .u8)) 0 U U U U U (fun w hw => uB.row (s := 1) bb (off) l.length (c) (l.map (.int .u8)) xC (cG (hr) uI w hw)) (kE _ _) (by rw [nU_len Yg]; omega) (by rw [show min l.length 8192 = 8192 by omega]; exact p_1 hl)) U ?_
 try simp only [ak, bf]
 refine aU ?_
 refine DR [] (bW [0, 2, 4, 6, 9]) ?_
 refine bG ?_
 refine DW (v := (.slice (some ⟨b5, 8192, none⟩) 160 160)) U (pC 0 160 U U U U U U M M) U U (bG ?_)
 refine DW (v := (.slice (some ⟨bb, off + 8192, none⟩) 23216 (c - 8192))) U (mB 8192 l.length U U U U U U I I) U (by rw [sS I, hl]) (DZ U (Fb (l' := cU (z2 l)) (m := 23216) (ys := (l.drop 8192).map (.int .u8)) 0 U U U U U (fun w hw => uB.row (s := 1) bb (off + 8192) 23216 (c - 8192) ((l.drop 8192).map (.int .u8)) xC (cG (hr.dropK 8192) uI w hw)) (kE _ _) (by rw [nU_len (Gd hl)]; decide) (p_2 hl)) U aW ?_)
 try simp only [ak, bf]
 refine aU ?_
 refine DR [] (bW [0, 2, 4, 6, 9]) ?_
 refine bG ?_
 refine DW (v := (.slice (some ⟨b5, 8352, none⟩) 6 12)) U (pC 0 6 U U U U U U M M) U U (bG ?_)
 refine DW (v := (.slice (some ⟨bb, off + 8352, none⟩) 23056 (c - 8352))) U (mB 8352 l.length U U U U U U I I) U (by rw [sS I, hl]) (DZ U (Fb (l' := cU (z3 l)) (m := 23056) (ys := (l.drop 8352).map (.int .u8)) 0 U U U U U (fun w hw => uB.row (s := 1) bb (off + 8352) 23056 (c - 8352) ((l.drop 8352).map (.int .u8)) xC (cG (hr.dropK 8352) uI w hw)) (kE _ _) (by rw [nU_len (Jn hl)]; decide) (p_3 hl)) U aW ?_)
 try simp only [ak, bf]
 refine aU ?_
 refine DR [] (bW [0, 2, 4, 6, 9]) ?_
 refine bG ?_
 refine DW (v := (.slice (some ⟨b5, 8359, none⟩) 5 5)) U (pC 7 12 U U U U U U M M) U U (bG ?_)
 refine DW (v := (.slice (some ⟨bb, off + 8358, none⟩) 5 (c - 8358))) U (mB 8358 8363 U U U U U U I I) U (by rw [sS I]) (DZ U (Fb (l' := cU (z4 l)) (m := 5) (ys := ((l.drop 8358).take 5).map (.int .u8)) 0 U U U U U (fun w hw => uB.row (s := 1) bb (off + 8358) 5 (c - 8358) (((l.drop 8358).take 5).map (.int .u8)) xC (cG ((hr.dropK 8358).takeK 5) uI w hw)) (kE _ _) (by rw [nU_len (Je hl)]; decide) (p_4 hl)) U aW ?_)
 try simp only [ak, bf]
 refine aU ?_
 refine DR [4, 5, 6, 7, 8, 9, 10, 11] (bW [0, 2, 4, 6, 8, 10, 12, 14, 16, 18, 20, 22, 24, 27, 28, 31, 32, 35]) ?_
 refine bG ?_
 refine DY U Cm U (DL U U U (eN aE (aPc hl)) U (DW U (gN U U U) U mM (bG ?_)))
 refine DY U (eB 8363 U U U U I) U (DL U U U (gD (hr.int (i := 8363) I) uI) U (DW U (gN U U U) U mM (bG ?_)))
 refine DY U (eB 8364 U U U U I) U (DL U U U (gD (hr.int (i := 8364) I) uI) U (DW U (gN U U U) U mM (bG ?_)))
 refine DZ U (bF (l' := cU ({ z4 l with line := l.getD 8356 0 })) 0 U U U U U U (by rw [nU_len (iA hl)]; simp) (aLI hl)) U aW ?_
 try simp only [ak, bf]
 refine bG ?_
 refine DZ U (bF (l' := cU ({ z4 l with line := l.getD 8356 0, dot := l.getD 8363 0 })) 0 U U U U U U (by rw [nU_len (u := { z4 l with line := l.getD 8356 0 }) ⟨(iA hl).lV, (iA hl).lO, (iA hl).lR, (iA hl).lP⟩]; simp) (aIo hl)) U aW ?_
 try simp only [ak, bf]
 refine bG ?_
 refine DZ U (bF (l' := cU (z5 l)) 0 U U U U U U (by rw [nU_len (u := { z4 l with line := l.getD 8356 0, dot := l.getD 8363 0 }) ⟨(iA hl).lV, (iA hl).lO, (iA hl).lR, (iA hl).lP⟩]; simp) (aHk hl)) U aW ?_
 try simp only [ak, bf]
 refine aU ?_
 refine DR [4, 5, 6, 7, 8, 10, 11, 12, 13] (bW [0, 2, 4, 6, 8, 10, 12, 14, 16, 18, 20, 22, 24, 26, 28, 31, 32, 35]) ?_
 refine bG ?_
 refine DY U (eB 8365 U U U U I) U (DL U U U (gD (hr.int (i := 8365) I) uI) U (DW U (gN U U U) U mM (bG ?_)))
 refine DY U (eB 8366 U U U U I) U (DL U U U (gD (hr.int (i := 8366) I) uI) U (DW U (gN U U U) U mM (DW U (iM U U M) U Ld ?_)))
 refine DW (v := (.int .i64 (l.getD 8365 0 + 256 * l.getD 8366 0))) U U U (aD _ (by rw [Int.mul_comm (l.getD 8366 0)]; exact aIj b4 b5')) (bG ?_)
 refine DY U (eB 8367 U U U U I) U (DL U U U (gD (hr.int (i := 8367) I) uI) U (aU ?_))
 refine DZ U (bF (l' := cU ({ z5 l with frames := l.getD 8365 0 + 256 * l.getD 8366 0 })) 0 U U U U U U (by rw [nU_len (Ek hl)]; simp) (aKG hl)) U aW ?_
 try simp only [ak, bf]
 refine bG ?_
 refine DZ U (bF (l' := cU (z6 l)) 0 U U U U U U (by rw [nU_len (u := { z5 l with frames := l.getD 8365 0 + 256 * l.getD 8366 0 }) ⟨(Ek hl).lV, (Ek hl).lO, (Ek hl).lR, (Ek hl).lP⟩]; simp) (aJD hl)) U aW ?_
 try simp only [ak, bf]
 refine eK ?_
 refine RY Cm U (W (bF (l' := cU (z7 l)) 0 U U U U U U (by rw [nU_len (Wy hl)]; simp) (p_7 hl)) U ?_)
 try simp only [ak, bf]
 refine bZ ?_
 refine W (aX U U (bN aE (aL6 hl))) U (bG ?_)
 refine KL (fun h2 h2n => ?_) (fun h2 h2n => ?_)
 ·refine aMO ?_
  exact EV U (bj _ _) ⟨aD _ (wI hl (aBg I)), by rw [Fs (wI hl (aBg I)) M]⟩
 refine bG ?_
 refine W (aX U U (bN aE (aMD hl))) U (aU ?_)
 refine KL (fun h3 h3n => ?_) (fun h3 h3n => ?_)
 ·refine aBT ?_
  exact EV U (bj _ _) ⟨aD _ (wI hl (aAz I)), by rw [Fs (wI hl (aAz I)) M]⟩
 refine bG ?_
 refine RY Ku U (W (aX U U (bN aE (aJ2 hl))) U (RW (zI U U) U U (aU ?_)))
 refine KL (fun h4 h4n => ?_) (fun h4 h4n => ?_)
 ·refine sJ ?_
  exact EV U (bj _ _) ⟨aD _ (wI hl (aFh h4)), by rw [Fs (wI hl (aFh h4)) M]⟩
 refine bG ?_
 refine RY (eB 8367 U U U U I) U (W (aX U U (cB (hr.int (i := 8367) I) uI)) U (aU ?_))
 refine KL (fun h5 h5n => ?_) (fun h5 h5n => ?_)
 ·refine fJ ?_
  exact EV U (bj _ _) ⟨aD _ (wI hl (Q3 I)), by rw [Fs (wI hl (Q3 I)) M]⟩
 refine bG ?_
 refine RW (v := (.slice (some ⟨bb, off + 8368, none⟩) (l.drop 8368).length (c - 8368))) (mB 8368 l.length U U U U U U I I) U (by rw [sS I, dN]) (bG ?_)
 refine aP K_ (fun w hw => aLj (some ⟨bb, off + 8368, none⟩) (c - 8368) (l.drop 8368) lA w (Ns.of (cG (hr.dropK 8368) uI w hw))) ?_
 refine aU ?_
 refine KC (fun h6 h6n => ?_) (fun h6 h6n => ?_)
 ·refine cY ?_
  exact EV U (bj _ _) ⟨aD _ (wI hl (aDC h6)), by rw [Fs (wI hl (aDC h6)) M]⟩
 refine bU ?_
 have hok := aDa I I h4 I h6
 refine eK ?_
 refine dV (σ := Nat) [7, 94, 95, 96, 97, 98, 99, 100, 101, 102, 103, 104, 105, 106, 107] (fun i => [(94, .int .i64 i)]) (fun i => [(b5, J (cU (z8 l i)) 172), (b, J (cU u) 172)]) (fun i => i ≤ 144) (fun i => 144 - i) 0 ?_ ?_ ?_ ?_
 ·exact av _
 ·exact .cons U .nil
 ·exact fun _ h => h.as (by rw [aHj])
 rintro i y17 hi
 refine cY ?_
 refine KC (fun h7 h7n => ?_) (fun h7 h7n => ?_)
 ·refine bA ?_
  refine DR [] (bW [0, 2, 4, 6, 8, 10, 12, 14, 16, 19]) ?_
  refine aU ?_
  refine DY U (iP (s := 160) i U U U U I) U (DW (v := (.slice (some ⟨b5, 8369 + i * 160, none⟩) 160 160)) U (pC 0 160 U U U U U U M M) U U (aU ?_))
  refine DW U (Cu U U) U mM (DW U (nL U U) U mM (DW (v := (.slice (some ⟨bb, off + (8368 + i * 160), none⟩) (31408 - (8368 + i * 160)) (c - (8368 + i * 160)))) U (mB (8368 + i * 160) l.length U U U U U U I I) U (by rw [sS I, hl]) (DZ U (Fb (l' := cU (z8 l (i + 1))) (m := 31408 - (8368 + i * 160)) (ys := (l.drop (8368 + i * 160)).map (.int .u8)) 0 U U U U U (fun w hw => uB.row (s := 1) bb (off + (8368 + i * 160)) (31408 - (8368 + i * 160)) (c - (8368 + i * 160)) ((l.drop (8368 + i * 160)).map (.int .u8)) xC (cG (hr.dropK (8368 + i * 160)) uI w hw)) (kE _ _) (by rw [nU_len (z8_ln hl I)]; omega) (by rw [show min (31408 - (8368 + i * 160)) 160 = 160 by omega]; exact p_8 hl I)) U aW ?_)))
  simp only [ct, bq, ak]
  refine aU ?_
  refine RW (v := (.int .i64 ((i + 1 : Nat) : Int))) U U (aD _ (eX I)) (aU ?_)
  exact ⟨i + 1, aR, aR, .cons U .nil, bJ, fun _ h => h⟩
 refine aU ?_
 obtain rfl : i = 144 := by omega
 refine aU ?_
 refine W (bX U U aAj (show ∀ w, St _ _ _ w → aK w b5 0 (cU (uH l)) from fun w hw => by have h9 := aH aE w hw; rw [z8_all hl] at h9; exact h9)) U (bG ?_)
 refine W (bF (l' := cU (uH l)) 1 U U U aAj (aHm _) U (by rw [← z8_all hl, nU_len (z8_ln hl (bi _)), cU_len hu]; decide) (Cb (by rw [← z8_all hl, nU_len (z8_ln hl (bi _)), cU_len hu]))) U ?_
 simp only [ak, bf]
 refine dO ?_
 exact EV U (bj _ _) ⟨aD _ (B6 hl hok), by rw [Xv (B6 hl hok)]⟩
def aEh (w : AI) : aG prog 55 [] w [] (fun v H => ∃ b, v = .map (some b) ∧ H = [(b, dL .u8 sortE 19)]) := by
 refine aT func55 ?_
 refine aI ?_
 refine RX (aBL .u8) U (ZBN fun b0 => ?_)
 refine RS ?_
 refine W (nP (l := kV (lF.take 0) 0) (k := .u8) 0 U U U U U U) U (nZ ?_)
 refine W (nP (l := kV (lF.take 1) 0) (k := .u8) 0 U U U U U U) U (nZ ?_)
 refine W (nP (l := kV (lF.take 2) 0) (k := .u8) 0 U U U U U U) U (nZ ?_)
 refine W (nP (l := kV (lF.take 3) 0) (k := .u8) 0 U U U U U U) U (nZ ?_)
 refine W (nP (l := kV (lF.take 4) 0) (k := .u8) 0 U U U U U U) U (nZ ?_)
 refine W (nP (l := kV (lF.take 5) 0) (k := .u8) 0 U U U U U U) U (nZ ?_)
 refine W (nP (l := kV (lF.take 6) 0) (k := .u8) 0 U U U U U U) U (nZ ?_)
 refine W (nP (l := kV (lF.take 7) 0) (k := .u8) 0 U U U U U U) U (nZ ?_)
 refine W (nP (l := kV (lF.take 8) 0) (k := .u8) 0 U U U U U U) U (nZ ?_)
 refine W (nP (l := kV (lF.take 9) 0) (k := .u8) 0 U U U U U U) U (nZ ?_)
 refine W (nP (l := kV (lF.take 10) 0) (k := .u8) 0 U U U U U U) U (nZ ?_)
 refine W (nP (l := kV (lF.take 11) 0) (k := .u8) 0 U U U U U U) U (nZ ?_)
 refine W (nP (l := kV (lF.take 12) 0) (k := .u8) 0 U U U U U U) U (nZ ?_)
 refine W (nP (l := kV (lF.take 13) 0) (k := .u8) 0 U U U U U U) U (nZ ?_)
 refine W (nP (l := kV (lF.take 14) 0) (k := .u8) 0 U U U U U U) U (nZ ?_)
 refine W (nP (l := kV (lF.take 15) 0) (k := .u8) 0 U U U U U U) U (nZ ?_)
 refine W (nP (l := kV (lF.take 16) 0) (k := .u8) 0 U U U U U U) U (nZ ?_)
 refine W (nP (l := kV (lF.take 17) 0) (k := .u8) 0 U U U U U U) U (nZ ?_)
 refine W (nP (l := kV (lF.take 18) 0) (k := .u8) 0 U U U U U U) U ?_
 simp only [ak]
 refine ZBy ?_
 exact EV U aJ ⟨b0, U, U⟩
def aQk (a : AC) (c : Nat) (l : AB) (hl : l.length ≤ 100000000) (hb : bE l) (w : AI) (hB : Ns w .u8 a l) (hlc : 333 ≤ c) : aG prog 56 [.slice a l.length c] w [] (V_ (.int .u8 (if l.length < 336 then 0 else chkH l 25))) := by
 refine aT func56 ?_
 refine bA ?_
 refine gZ ?_
 refine ZAm ?_
 refine KC (fun q0 z0 => ?_) (fun q0 z0 => ?_)
 ·refine ZBn ?_
  exact E0 U ⟨U, Qb⟩
 refine ZAm ?_
 obtain ⟨ba, oa, rfl, hra⟩ := hB.row (i := 0) I
 refine ZDG ?_
 have hlc9 := hlc
 have hcut : cut1 oa 308 c = oa + 308 := sS I
 refine RW (v := (.slice (some ⟨ba, cut1 oa 308 c, none⟩) 25 (c - 308))) (mB 308 333 U U U U U U M hlc) U U (oS ?_)
 refine dV (σ := Nat) [3, 5, 12, 13, 14, 15, 16, 17, 18, 19, 20] (fun i => [(3, .int .u8 (chkH l i)), (12, .int .i64 i)]) (fun _ => []) (fun i => i ≤ 25) (fun i => 25 - i) 0 ?_ ?_ ?_ ?_
 ·exact av _
 ·exact .cons U (.cons U .nil)
 ·exact fun _ h => h
 rintro i y5 hi
 refine ZBn ?_
 refine KC (fun q1 z1 => ?_) (fun q1 z1 => ?_)
 ·refine ZBy ?_
  have hby := hb.get (308 + i)
  have hck := Tf l i
  refine ZBE ?_
  refine RY (eB i U U U U (by show i < 333 - 308; omega)) U (W (aX U U (cB (by have h9 := hra (308 + i) _ (gJ (j := 308 + i) I); rwa [← eh, ← hcut] at h9) aL)) U (ZBn ?_))
  refine RW (v := (.int .u8 ((l.getD (308 + i) 0 + 1) % 256))) (nL U U) U (yC _) (RW (v := (.int .u8 (chkH l (i + 1)))) (nA U U) U ((yC _).trans (aD _ aAU)) (ZA7 ?_))
  exact Jg
 refine ZDG ?_
 obtain rfl : i = 25 := by omega
 exact E0 U ⟨U, Qt⟩
def sum_fn (a : AC) (c : Nat) (l : AB) (hl : l.length ≤ 100000000) (hb : bE l) (w : AI) (hB : Ns w .u8 a l) : aG prog 58 [.slice a l.length c] w [] (V_ (.int .u16 (if l.length < 336 then 0 else Rs l))) := by
 refine aT func58 ?_
 refine bA ?_
 refine gZ ?_
 refine ZAm ?_
 refine KC (fun q0 z0 => ?_) (fun q0 z0 => ?_)
 ·refine ZBn ?_
  exact E0 U ⟨U, Qb⟩
 refine ZAm ?_
 obtain ⟨ba, oa, rfl, hra⟩ := hB.row (i := 0) I
 refine ZDG ?_
 refine oS ?_
 refine dV (σ := Nat) [3, 5, 11, 12, 13, 14, 15, 16, 17, 18, 19] (fun i => [(3, .int .u16 (zM l i)), (11, .int .i64 i)]) (fun _ => []) (fun i => i ≤ l.length) (fun i => l.length - i) 0 ?_ ?_ ?_ ?_
 ·exact av _
 ·exact .cons U (.cons U .nil)
 ·exact fun _ h => h
 rintro i y5 hi
 refine ZBn ?_
 refine KC (fun q1 z1 => ?_) (fun q1 z1 => ?_)
 ·refine ZBy ?_
  have hby := hb.get i
  have hck := S9 l i
  refine ZBE ?_
  refine Bu ?_
  refine W (aX U U (cB (hra _ _ (gJ (j := i) I)) aL)) U (ZBn ?_)
  refine RW (v := (.int .u16 (l.getD i 0))) (gN U U U) U (Ie hby.1 I) (RW (v := (.int .u16 (zM l (i + 1)))) (nL U U) U ((Gy _).trans (aD _ U)) (ZA7 ?_))
  exact Jg
 refine ZAm ?_
 obtain rfl : i = l.length := by omega
 have hb4 := hb.get 334
 have hb5 := hb.get 335
 have hck := S9 l l.length
 refine DR [6, 7, 8, 9] (bW [0, 2, 4, 6, 8, 10, 12, 14, 16, 18, 20, 22]) ?_
 refine ZAm ?_
 refine DY U (eB 334 U U U U I) U (ZB2 ?_)
 refine DW (v := (.int .u16 ((zM l l.length - l.getD 334 0) % 65536))) U (nA U U) U (Gy _) (ZBE ?_)
 refine DY U (eB 335 U U U U I) U (We ?_)
 refine DW (v := (.int .u16 (Rs l))) U (nA U U) U ((Gy _).trans (aD _ (by unfold Rs; omega))) (ZA7 ?_)
 exact E0 U ⟨U, Qt⟩
def take_snoc {l : AB} {i : Nat} (h : i < l.length) : l.take (i + 1) = l.take i ++ [l.getD i 0] := by
 rw [fk, am h, fV, am h]; rfl
def txV_app (a b : List UInt8) : txV a ++ txV b = txV (a ++ b) := by simp [txV]
def name_fn (b off c : Nat) (l : AB) (hl : l.length ≤ 1000000) (hb : bE l) (w : AI) (hr : aK w b off (l.map (.int .u8))) : aG prog 57 [.slice (some ⟨b, off, none⟩) l.length c] w [] (V_ (.string (bs (nameH l)))) := by
 refine aT func57 ?_
 refine aI ?_
 refine nM fun b0 => ?_
 refine ZBn ?_
 refine oS ?_
 refine dV (σ := Nat × AH × aF × AH) [5, 8, 9, 10, 11, 12, 13, 14, 15, 16, 17, 18, 19, 20, 21, 22] (fun s => [(8, .int .i64 s.1)]) (fun s => (b0, J [s.2.2.2, s.2.1] 237) :: s.2.2.1) (fun s => s.1 ≤ l.length ∧ (∀ j, j < s.1 → l.getD j 0 ≠ 0) ∧ (s.2.2.2 = .pointer none ∨ s.2.2.2 = (P_ b0)) ∧ bM 5 1 s.2.1 s.1 (txV ((l.take s.1).map chrH)) s.2.2.1 ∧ (s.1 = 0 → s.2.1 = .slice none 0 0 ∧ s.2.2.1 = [])) (fun s => l.length - s.1) (0, .slice none 0 0, [], .pointer none) ?_ ?_ ?_ ?_
 ·exact ⟨av _, fun j hj => aR, .inl U, .nil, fun _ => ⟨U, U⟩⟩
 ·exact .cons U .nil
 ·exact fun _ h => h
 rintro ⟨i, v0, G0, ad6⟩ y3 ⟨hi, hj, hA6, hV0, q0⟩
 dsimp only at hi hj hA6 hV0 q0 ⊢
 refine ZBn ?_
 refine KC (fun q1 z1 => ?_) (fun q1 z1 => ?_)
 ·refine ZBy ?_
  have hc9 := hb.get i
  refine ZBE ?_
  refine Bu ?_
  refine W (aX U U (cB (hr _ _ (gJ (j := i) I)) aL)) U (bA ?_)
  refine KC (fun q2 z2 => ?_) (fun q2 z2 => ?_)
  ·refine ZAm ?_
   have hTi : ((l.take i).map chrH).length = i := by rw [eD, fZ]; omega
   refine ZCL ?_
   refine ZBQ ?_
   refine ZA7 ?_
   exact E0 U ⟨U, (by rw [aOd hj I z2])⟩
  refine aI ?_
  refine KL (fun q3 z3 => ?_) (fun q3 z3 => ?_)
  ·refine cL ?_
   refine R9 ?_
   refine K3 fun va0 G1 hV1 => ?_
   refine ZAm ?_
   exact ZC8
  refine ZBy ?_
  refine KC (fun q4 z4 => ?_) (fun q4 z4 => ?_)
  ·refine ZBn ?_
   refine R9 ?_
   refine K3 fun va0 G1 hV1 => ?_
   refine ZAm ?_
   exact ZC8
  refine ZA7 ?_
  refine RX (cX (F := []) (A := (b0, J [ad6, v0] 237) :: G0) (R := fun v H => v = .nilIface ∧ ∃ va' G', bM 5 1 va' (i + 1) (txV ((l.take i).map chrH) ++ [.int .u8 (l.getD i 0)]) G' ∧ H = (b0, J [(P_ b0), va'] 237) :: G') K_ U (fun w hw => bwrite_fn b0 ad6 v0 hA6 i I _ G0 hV0 (l.getD i 0) _ w (St.lentV (G := []) hw))) U (K3 fun va0 G1 hV1 => ?_)
  refine ZAm ?_
  refine jF ?_
  exact ⟨(i + 1, va0, G1, (P_ b0)), ⟨aR, fun j hj' => Xl, .inr U, hV1.as tV (by rw [take_snoc I, bz, ← txV_app]; exact aD (fun z : Int => txV ((l.take i).map chrH) ++ [Value.int .u8 z]) ((aOk hc9 I).symm)), fun h => absurd h (Nat.succ_ne_zero _)⟩, aR, .cons U .nil, bJ, fun _ h => h⟩
 refine ZAm ?_
 have hTi : ((l.take i).map chrH).length = i := by rw [eD, fZ]; omega
 refine ZCL ?_
 refine ZBQ ?_
 refine ZA7 ?_
 exact E0 U ⟨U, (by obtain rfl : i = l.length := I; rw [aLX hj, dq])⟩
def qcheck_fn (a : AC) (c : Nat) (l : AB) (hl : l.length ≤ 100000000) (hb : bE l) (w : AI) (hB : Ns w .u8 a l) : aG prog 17 [.slice a l.length c] w [] (V_ (.int .u8 (if l.length < 336 then 0 else chkH l 25))) := by
 refine aT func17 ?_
 refine bA ?_
 refine gZ ?_
 refine ZAm ?_
 refine KC (fun q0 z0 => ?_) (fun q0 z0 => ?_)
 ·refine ZBn ?_
  exact E0 U ⟨U, Qb⟩
 refine ZAm ?_
 obtain ⟨ba, oa, rfl, hra⟩ := hB.row (i := 0) I
 refine bZ ?_
 refine dV (σ := Nat) [3, 4, 8, 9, 10, 11, 12, 13, 14, 15, 16, 17, 18, 19, 20, 21] (fun i => [(3, .int .i64 (chkH l i)), (4, .int .i64 ((308 + i : Nat) : Int))]) (fun _ => []) (fun i => i ≤ 25) (fun i => 25 - i) 0 ?_ ?_ ?_ ?_
 ·exact av _
 ·exact .cons U (.cons U .nil)
 ·exact fun _ h => h
 rintro i y5 hi
 have hck9 := Tf l i
 refine aI ?_
 refine KC (fun q1 z1 => ?_) (fun q1 z1 => ?_)
 ·refine ZA7 ?_
  have hby := hb.get (308 + i)
  have hck := Tf l i
  refine ZBy ?_
  refine RY (eB (308 + i) U U U U I) U (W (aX U U (cB (hra _ _ (gJ (j := 308 + i) I)) aL)) U (RW (v := (.int .i64 (l.getD (308 + i) 0))) U U (tO I I) (RW (v := (.int .i64 (chkH l i - l.getD (308 + i) 0))) U U (tO I I) ?_)))
  refine RW (v := (.int .i64 (chkH l i - l.getD (308 + i) 0 - 1))) U U (tO I I) (RW (v := (.int .i64 (chkH l i - l.getD (308 + i) 0 - 1 + 512))) U U (tO I I) (RW (v := (.int .i64 (chkH l (i + 1)))) (tU U U M) U (aD _ ((cn I).trans aAU)) (ZBy ?_)))
  refine RW (v := (.int .i64 ((308 + (i + 1) : Nat) : Int))) U U (aD _ ((bY I I).trans I)) (ZAm ?_)
  exact ⟨i + 1, aR, aR, .cons U (.cons U .nil), bJ, fun _ h => h⟩
 refine ZBy ?_
 refine RW (v := (.int .u8 (chkH l i))) U U (Do I I) (ZA7 ?_)
 obtain rfl : i = 25 := by omega
 exact E0 U ⟨U, Qt⟩
def aCv (kind b ram : Int) (hk : 0 ≤ kind ∧ kind < 256) (hb9 : 0 ≤ b ∧ b < 256) (hr9 : 0 ≤ ram ∧ ram < 256) (a : AC) (c : Nat) (prog : AB) (hl : prog.length ≤ 100000000) (hb : bE prog) (w : AI) (hB : Ns w .u8 a prog) : aG Tryz.prog 11 [.int .u8 kind, .int .u8 b, .int .u8 ram, .slice a prog.length c] w [] (fun v H => ∃ b11, v = .slice (Q_ b11) (romS b) (romS b) ∧ H = [(b11, J ((madeI kind b ram prog).map Z) 5)]) := by
 have hrs := aOw b
 have hlZ := aAW kind b ram prog
 have hbZ := aA0 (b := b) hk hr9 hb
 refine aT func11 ?_
 refine jN ?_
 refine dV (σ := Nat) [9, 10, 14, 15, 16, 17, 18, 19, 20, 21, 22] (fun i => [(9, .int .i64 ((32768 * 2 ^ i : Nat) : Int)), (10, .int .i64 i)]) (fun _ => []) (fun i => i ≤ (b % 9).toNat) (fun i => (b % 9).toNat - i) 0 ?_ ?_ ?_ ?_
 ·exact av _
 ·exact .cons U (.cons U .nil)
 ·exact fun _ h => h
 rintro i y3 hi
 have hpw : 2 ^ i ≤ 2 ^ 8 := gf M I
 refine ZBn ?_
 refine RW (v := (.int .i64 b)) U U (tO I I) (RW (v := (.int .i64 (b % 9))) (tU U U M) U (aD _ ((cn I).trans I)) (ZAm ?_))
 refine KC (fun q0 z0 => ?_) (fun q0 z0 => ?_)
 ·refine ZBn ?_
  refine RW (v := (.int .i64 ((32768 * 2 ^ (i + 1) : Nat) : Int))) U U (aD _ ((bY I I).trans (by rw [jf]; omega))) (ZBy ?_)
  exact Jg
 refine ZAm ?_
 obtain rfl : i = (b % 9).toNat := by omega
 refine ZAm ?_
 refine RX (aAD (n := romS b) (z := .int .u8 0) U U I U U U U) U ?_
 rintro _ _ ⟨b11, rfl, rfl⟩
 refine bA ?_
 refine dV (σ := Nat) [12, 13, 25, 26, 27, 28, 29, 30, 31, 32, 33, 34, 35, 36, 37, 38, 39, 40, 41, 42, 43, 44, 45, 46, 47] (fun i => [(12, .int .i64 i)]) (fun i => [(b11, J (((madeP (List.replicate (romS b) 0) prog i)).map Z) 5)]) (fun i => i ≤ min prog.length 15000) (fun i => min prog.length 15000 - i) 0 ?_ ?_ ?_ ?_
 ·exact av _
 ·exact .cons U .nil
 ·exact fun _ h => h.as (by simp only [madeP, jo])
 rintro i y8 hi
 refine ZBn ?_
 refine gZ ?_
 refine ZBE ?_
 refine KL (fun q1 z1 => ?_) (fun q1 z1 => ?_)
 ·refine ZBy ?_
  refine KC (fun q2 z2 => ?_) (fun q2 z2 => ?_)
  ·refine ZBy ?_
   obtain ⟨ba, oa, rfl, hra⟩ := hB.row (i := i) I
   refine ZAm ?_
   refine RW (v := (.int .i64 ((256 + i : Nat) : Int))) U U (tO I I) (bA ?_)
   refine KC (fun q3 z3 => ?_) (fun q3 z3 => ?_)
   ·refine ZAm ?_
    refine RW (v := (.int .i64 ((256 + i + 76 : Nat) : Int))) U U (tO I I) (ZDG ?_)
    refine X2 ?_
    refine RY (eB (n := romS b) (256 + i + 76) U U U U I) U (ZCJ ?_)
    refine ZA7 ?_
    exact I2
   refine aI ?_
   refine X2 ?_
   refine RY (eB (n := romS b) (256 + i) U U U U I) U (ZCJ ?_)
   refine ZA7 ?_
   exact I2
  refine ZAm ?_
  obtain rfl : i = min prog.length 15000 := by omega
  refine aI ?_
  refine RW (v := (.int .u8 (b % 9))) (tU U U M) U (aD _ (cn I)) (ZBE ?_)
  refine U9 ?_
  refine eP ?_
  refine ZBT ?_
  refine eP ?_
  refine U3 ?_
  refine kB ?_
  refine kG (L' := [(b11, J ((madeZ kind b ram prog).map Z) 5)]) (fun _ h => h) ?_
  refine ZA7 ?_
  refine aP K_ (fun w hw => aCI) ?_
  refine Y6 ?_
  refine eP ?_
  refine ZDG ?_
  exact EV U aJ ⟨b11, U, U⟩
 refine ZDG ?_
 obtain rfl : i = min prog.length 15000 := by omega
 refine aI ?_
 refine RW (v := (.int .u8 (b % 9))) (tU U U M) U (aD _ (cn I)) (ZBE ?_)
 refine U9 ?_
 refine eP ?_
 refine ZBT ?_
 refine eP ?_
 refine U3 ?_
 refine kB ?_
 refine kG (L' := [(b11, J ((madeZ kind b ram prog).map Z) 5)]) (fun _ h => h) ?_
 refine ZA7 ?_
 refine aP K_ (fun w hw => aCI) ?_
 refine Y6 ?_
 refine eP ?_
 refine ZDG ?_
 exact EV U aJ ⟨b11, U, U⟩
def sig_fn (t : Tm) (h : t.Ok) (w : AI) : aG prog 354 [.agg (iZ t).toArray] w [] (V_ (.bool (xJ t))) := by
 obtain ⟨cnt, tima, tma, tac, over⟩ := t
 obtain ⟨k1, k2, k3, k4⟩ := h
 dsimp only at k1 k2 k3 k4
 refine aT func354 ?_
 refine ZAm ?_
 refine Ci fun b0 => ?_
 refine ZBy ?_
 refine RY (Ex (l := [.int .i64 9, .int .i64 3, .int .i64 5, .int .i64 7]) U U U aO) U (lE fun b1 => ?_)
 refine pT ?_
 rcases (show tac % 4 = 0 ∨ tac % 4 = 1 ∨ tac % 4 = 2 ∨ tac % 4 = 3 by omega) with hq | hq | hq | hq
 ·refine Sw ?_
  refine ZBE ?_
  refine KE (fun q0 z0 => ?_) (fun q0 z0 => ?_)
  ·refine ZBy ?_
   refine DW (v := (.int .u8 0)) U (cM U U) U ((qF 2 4 M U I (show _ < (256 : Int) by omega) (show _ < (256 : Int) by decide)).trans (aD _ hq)) (DY U (eG 0 U U U U M) U (ZBE ?_))
   refine DW (v := (.int .u16 (cnt / 512))) U (iV U U M) U (qC 512 M M) (Mr ?_)
   exact E0 U ⟨U, (aD Value.bool (Uj (t := ⟨cnt, tima, tma, tac, over⟩) 512 z0 (by rw [Sd (t := ⟨cnt, tima, tma, tac, over⟩) (n := 9) hq M]; rfl)))⟩
  exact Qe
 ·refine Sw ?_
  refine ZBE ?_
  refine KE (fun q0 z0 => ?_) (fun q0 z0 => ?_)
  ·refine ZBy ?_
   refine DW (v := (.int .u8 1)) U (cM U U) U ((qF 2 4 M U I (show _ < (256 : Int) by omega) (show _ < (256 : Int) by decide)).trans (aD _ hq)) (DY U (eG 1 U U U U M) U (ZBE ?_))
   refine DW (v := (.int .u16 (cnt / 8))) U (iV U U M) U (qC 8 M M) (Mr ?_)
   exact E0 U ⟨U, (aD Value.bool (Uj (t := ⟨cnt, tima, tma, tac, over⟩) 8 z0 (by rw [Sd (t := ⟨cnt, tima, tma, tac, over⟩) (n := 3) hq M]; rfl)))⟩
  exact Qe
 ·refine Sw ?_
  refine ZBE ?_
  refine KE (fun q0 z0 => ?_) (fun q0 z0 => ?_)
  ·refine ZBy ?_
   refine DW (v := (.int .u8 2)) U (cM U U) U ((qF 2 4 M U I (show _ < (256 : Int) by omega) (show _ < (256 : Int) by decide)).trans (aD _ hq)) (DY U (eG 2 U U U U M) U (ZBE ?_))
   refine DW (v := (.int .u16 (cnt / 32))) U (iV U U M) U (qC 32 M M) (Mr ?_)
   exact E0 U ⟨U, (aD Value.bool (Uj (t := ⟨cnt, tima, tma, tac, over⟩) 32 z0 (by rw [Sd (t := ⟨cnt, tima, tma, tac, over⟩) (n := 5) hq M]; rfl)))⟩
  exact Qe
 refine Sw ?_
 refine ZBE ?_
 refine KE (fun q0 z0 => ?_) (fun q0 z0 => ?_)
 ·refine ZBy ?_
  refine DW (v := (.int .u8 3)) U (cM U U) U ((qF 2 4 M U I (show _ < (256 : Int) by omega) (show _ < (256 : Int) by decide)).trans (aD _ hq)) (DY U (eG 3 U U U U M) U (ZBE ?_))
  refine DW (v := (.int .u16 (cnt / 128))) U (iV U U M) U (qC 128 M M) (Mr ?_)
  exact E0 U ⟨U, (aD Value.bool (Uj (t := ⟨cnt, tima, tma, tac, over⟩) 128 z0 (by rw [Sd (t := ⟨cnt, tima, tma, tac, over⟩) (n := 7) hq M]; rfl)))⟩
 exact Qe
def aJn (b : Nat) (t : Tm) (h : t.Ok) (w : AI) (hst : St w [b] [(b, J (iZ t) 115)] w) : aG prog 395 [P_ b] w [b] (fun v H => v = .tuple #[] ∧ H = [(b, J (iZ (nR t)) 115)]) := by
 obtain ⟨cnt, tima, tma, tac, over⟩ := t
 obtain ⟨k1, k2, k3, k4⟩ := h
 dsimp only at k1 k2 k3 k4
 refine cE func395 hst ?_
 refine ZBn ?_
 refine RW (nL U U) U qZ (ZAm ?_)
 refine ZEq ?_
 exact Km
def aN0 (b : Nat) (t : Tm) (h : t.Ok) (w : AI) (hst : St w [b] [(b, J (iZ t) 115)] w) : aG prog 356 [P_ b] w [b] (fun v H => v = .tuple #[] ∧ H = [(b, J (iZ (nI t)) 115)]) := by
 obtain ⟨cnt, tima, tma, tac, over⟩ := t
 obtain ⟨k1, k2, k3, k4⟩ := h
 dsimp only at k1 k2 k3 k4
 refine cE func356 hst ?_
 refine ZBy ?_
 refine ZEq ?_
 exact Km
def aKN (b : Nat) (t : Tm) (h : t.Ok) (x : Int) (hx : 0 ≤ x ∧ x < 256) (xb : Nat) (w : AI) (hc : w.cell? ⟨xb, 0, none⟩ = some (.int .u8 x)) (hxb : xb ≠ b) (hst : St w [b] [(b, J (iZ t) 115)] w) : aG prog 357 [P_ b, P_ xb] w [b] (fun v H => v = .tuple #[] ∧ H = [(b, J (iZ (nU x t)) 115)]) := by
 obtain ⟨cnt, tima, tma, tac, over⟩ := t
 obtain ⟨k1, k2, k3, k4⟩ := h
 dsimp only at k1 k2 k3 k4
 refine cE func357 hst ?_
 refine ZAm ?_
 refine W (aX U U (cB hc (by simp [hxb]))) U (RW (cM U U) U xV (ZAm ?_))
 refine ZEq ?_
 exact Km
def aEv (t : Tm) (h : t.Ok) (w : AI) : aG prog 355 [.agg (iZ t).toArray, .func (.func 395) #[] #[]] w [] (V_ (.agg (iZ (oO (nR) t)).toArray)) := by
 obtain ⟨cnt, tima, tma, tac, over⟩ := t
 obtain ⟨k1, k2, k3, k4⟩ := h
 dsimp only at k1 k2 k3 k4
 refine aT func355 ?_
 refine ZAm ?_
 refine Ci fun b0 => ?_
 refine lE fun b1 => ?_
 refine ZA7 ?_
 refine Vd ?_
 refine ZBn ?_
 refine RX (Qi (F := [(b1, _)]) (A := [(b0, J [.int .u16 cnt, .int .u8 tima, .int .u8 tma, .int .u8 tac, .bool over] 115)]) (B := []) (C := []) (R := fun v H => v = .tuple #[] ∧ H = [(b0, J (iZ (nR ⟨cnt, tima, tma, tac, over⟩)) 115)]) U K_ U ?_) U ?_
 ·exact fun w hw => aJn b0 ⟨cnt, tima, tma, tac, over⟩ ⟨k1, k2, k3, k4⟩ w (St.lentV hw)
 refine ZBQ ?_
 refine ZBn ?_
 refine KL (fun q0 z0 => ?_) (fun q0 z0 => ?_)
 ·refine pH ?_
  refine aP K_ (aS (sig_fn (nR ⟨cnt, tima, tma, tac, over⟩) (Tm.Ok.step (t := ⟨cnt, tima, tma, tac, over⟩) ⟨k1, k2, k3, k4⟩))) ?_
  refine ZA7 ?_
  refine KC (fun q1 z1 => ?_) (fun q1 z1 => ?_)
  ·refine ZBy ?_
   refine rS ?_
   refine kS ?_
   refine ZBy ?_
   refine KL (fun q2 z2 => ?_) (fun q2 z2 => ?_)
   ·refine ZBn ?_
    refine iJ ?_
    refine tE ?_
    have hov : over = true := q2
    subst hov
    have e1 : wL (nR ⟨cnt, tima, tma, tac, true⟩) = oO (nR) ⟨cnt, tima, tma, tac, true⟩ := Ha (t := (nR ⟨cnt, tima, tma, tac, true⟩)) q0 oZ
    exact aZ (fun w hw => eW U U U (aH (b := b1) aE w hw)) ⟨U, tL⟩
   refine ZBn ?_
   refine iJ ?_
   refine tE ?_
   have hov : over = false := q2
   subst hov
   have e1 : wL (nR ⟨cnt, tima, tma, tac, false⟩) = oO (nR) ⟨cnt, tima, tma, tac, false⟩ := Ha (t := (nR ⟨cnt, tima, tma, tac, false⟩)) q0 oZ
   exact aZ (fun w hw => eW U U U (aH (b := b1) aE w hw)) ⟨U, tL⟩
  refine ZA7 ?_
  refine tE ?_
  have e1 : (nR ⟨cnt, tima, tma, tac, over⟩) = oO (nR) ⟨cnt, tima, tma, tac, over⟩ := Et (t := (nR ⟨cnt, tima, tma, tac, over⟩)) (.inr oZ)
  exact aZ (fun w hw => eW U U U (aH (b := b1) aE w hw)) ⟨U, tL⟩
 refine bZ ?_
 refine tE ?_
 have e1 : (nR ⟨cnt, tima, tma, tac, over⟩) = oO (nR) ⟨cnt, tima, tma, tac, over⟩ := Et (t := (nR ⟨cnt, tima, tma, tac, over⟩)) (.inl q0)
 exact aZ (fun w hw => eW U U U (aH (b := b1) aE w hw)) ⟨U, tL⟩
def aM5 (t : Tm) (h : t.Ok) (w : AI) : aG prog 355 [.agg (iZ t).toArray, .func (.func 356) #[] #[]] w [] (V_ (.agg (iZ (oO (nI) t)).toArray)) := by
 obtain ⟨cnt, tima, tma, tac, over⟩ := t
 obtain ⟨k1, k2, k3, k4⟩ := h
 dsimp only at k1 k2 k3 k4
 refine aT func355 ?_
 refine ZAm ?_
 refine Ci fun b0 => ?_
 refine lE fun b1 => ?_
 refine ZA7 ?_
 refine Vd ?_
 refine ZBn ?_
 refine RX (Qi (F := [(b1, _)]) (A := [(b0, J [.int .u16 cnt, .int .u8 tima, .int .u8 tma, .int .u8 tac, .bool over] 115)]) (B := []) (C := []) (R := fun v H => v = .tuple #[] ∧ H = [(b0, J (iZ (nI ⟨cnt, tima, tma, tac, over⟩)) 115)]) U K_ U ?_) U ?_
 ·exact fun w hw => aN0 b0 ⟨cnt, tima, tma, tac, over⟩ ⟨k1, k2, k3, k4⟩ w (St.lentV hw)
 refine ZBQ ?_
 refine ZBn ?_
 refine KL (fun q0 z0 => ?_) (fun q0 z0 => ?_)
 ·refine pH ?_
  refine aP K_ (aS (sig_fn (nI ⟨cnt, tima, tma, tac, over⟩) (Tm.Ok.zero (t := ⟨cnt, tima, tma, tac, over⟩) ⟨k1, k2, k3, k4⟩))) ?_
  refine ZA7 ?_
  refine KC (fun q1 z1 => ?_) (fun q1 z1 => ?_)
  ·refine ZBy ?_
   refine rS ?_
   refine kS ?_
   refine ZBy ?_
   refine KL (fun q2 z2 => ?_) (fun q2 z2 => ?_)
   ·refine ZBn ?_
    refine iJ ?_
    refine tE ?_
    have hov : over = true := q2
    subst hov
    have e1 : wL (nI ⟨cnt, tima, tma, tac, true⟩) = oO (nI) ⟨cnt, tima, tma, tac, true⟩ := Ha (t := (nI ⟨cnt, tima, tma, tac, true⟩)) q0 oZ
    exact aZ (fun w hw => eW U U U (aH (b := b1) aE w hw)) ⟨U, tL⟩
   refine ZBn ?_
   refine iJ ?_
   refine tE ?_
   have hov : over = false := q2
   subst hov
   have e1 : wL (nI ⟨cnt, tima, tma, tac, false⟩) = oO (nI) ⟨cnt, tima, tma, tac, false⟩ := Ha (t := (nI ⟨cnt, tima, tma, tac, false⟩)) q0 oZ
   exact aZ (fun w hw => eW U U U (aH (b := b1) aE w hw)) ⟨U, tL⟩
  refine ZA7 ?_
  refine tE ?_
  have e1 : (nI ⟨cnt, tima, tma, tac, over⟩) = oO (nI) ⟨cnt, tima, tma, tac, over⟩ := Et (t := (nI ⟨cnt, tima, tma, tac, over⟩)) (.inr oZ)
  exact aZ (fun w hw => eW U U U (aH (b := b1) aE w hw)) ⟨U, tL⟩
 refine bZ ?_
 refine tE ?_
 have e1 : (nI ⟨cnt, tima, tma, tac, over⟩) = oO (nI) ⟨cnt, tima, tma, tac, over⟩ := Et (t := (nI ⟨cnt, tima, tma, tac, over⟩)) (.inl q0)
 exact aZ (fun w hw => eW U U U (aH (b := b1) aE w hw)) ⟨U, tL⟩
def aK7 (t : Tm) (h : t.Ok) (x : Int) (hx : 0 ≤ x ∧ x < 256) (xb : Nat) (w : AI) (hr : aK w xb 0 [.int .u8 x]) : aG prog 355 [.agg (iZ t).toArray, .func (.func 357) #[] #[P_ xb]] w [] (V_ (.agg (iZ (oO (nU x) t)).toArray)) := by
 obtain ⟨cnt, tima, tma, tac, over⟩ := t
 obtain ⟨k1, k2, k3, k4⟩ := h
 dsimp only at k1 k2 k3 k4
 refine aT func355 ?_
 refine ZAm ?_
 refine Ci fun b0 => ?_
 refine lE fun b1 => ?_
 refine ZA7 ?_
 refine Vd ?_
 refine ZBn ?_
 refine RX (Qi (F := [(b1, _)]) (A := [(b0, J [.int .u16 cnt, .int .u8 tima, .int .u8 tma, .int .u8 tac, .bool over] 115)]) (B := []) (C := [P_ xb]) (R := fun v H => v = .tuple #[] ∧ H = [(b0, J (iZ (nU x ⟨cnt, tima, tma, tac, over⟩)) 115)]) U K_ U ?_) U ?_
 ·exact fun w hw => aKN b0 ⟨cnt, tima, tma, tac, over⟩ ⟨k1, k2, k3, k4⟩ x hx xb w ((cG hr aL w hw) 0 _ U) (hr.apart (Nat.succ_pos _) hw (.head _)) (St.lentV hw)
 refine ZBQ ?_
 refine ZBn ?_
 refine KL (fun q0 z0 => ?_) (fun q0 z0 => ?_)
 ·refine pH ?_
  refine aP K_ (aS (sig_fn (nU x ⟨cnt, tima, tma, tac, over⟩) (Tm.Ok.tac_ (t := ⟨cnt, tima, tma, tac, over⟩) ⟨k1, k2, k3, k4⟩ x))) ?_
  refine ZA7 ?_
  refine KC (fun q1 z1 => ?_) (fun q1 z1 => ?_)
  ·refine ZBy ?_
   refine rS ?_
   refine kS ?_
   refine ZBy ?_
   refine KL (fun q2 z2 => ?_) (fun q2 z2 => ?_)
   ·refine ZBn ?_
    refine iJ ?_
    refine tE ?_
    have hov : over = true := q2
    subst hov
    have e1 : wL (nU x ⟨cnt, tima, tma, tac, true⟩) = oO (nU x) ⟨cnt, tima, tma, tac, true⟩ := Ha (t := (nU x ⟨cnt, tima, tma, tac, true⟩)) q0 oZ
    exact aZ (fun w hw => eW U U U (aH (b := b1) aE w hw)) ⟨U, tL⟩
   refine ZBn ?_
   refine iJ ?_
   refine tE ?_
   have hov : over = false := q2
   subst hov
   have e1 : wL (nU x ⟨cnt, tima, tma, tac, false⟩) = oO (nU x) ⟨cnt, tima, tma, tac, false⟩ := Ha (t := (nU x ⟨cnt, tima, tma, tac, false⟩)) q0 oZ
   exact aZ (fun w hw => eW U U U (aH (b := b1) aE w hw)) ⟨U, tL⟩
  refine ZA7 ?_
  refine tE ?_
  have e1 : (nU x ⟨cnt, tima, tma, tac, over⟩) = oO (nU x) ⟨cnt, tima, tma, tac, over⟩ := Et (t := (nU x ⟨cnt, tima, tma, tac, over⟩)) (.inr oZ)
  exact aZ (fun w hw => eW U U U (aH (b := b1) aE w hw)) ⟨U, tL⟩
 refine bZ ?_
 refine tE ?_
 have e1 : (nU x ⟨cnt, tima, tma, tac, over⟩) = oO (nU x) ⟨cnt, tima, tma, tac, over⟩ := Et (t := (nU x ⟨cnt, tima, tma, tac, over⟩)) (.inl q0)
 exact aZ (fun w hw => eW U U U (aH (b := b1) aE w hw)) ⟨U, tL⟩
def aKT (t : Tm) (h : t.Ok) (w : AI) : aG prog 386 [.agg (iZ t).toArray] w [] (V_ (.tuple #[.agg (iZ (vO t)).toArray, .bool t.over])) := by
 obtain ⟨cnt, tima, tma, tac, over⟩ := t
 obtain ⟨k1, k2, k3, k4⟩ := h
 dsimp only at k1 k2 k3 k4
 refine aT func386 ?_
 refine ZAm ?_
 refine Ci fun b0 => ?_
 refine lE fun b1 => ?_
 refine lS ?_
 refine KC (fun q0 z0 => ?_) (fun q0 z0 => ?_)
 ·refine ZBy ?_
  refine ZEq ?_
  refine kL ?_
  refine pH ?_
  refine aP K_ (aS (aEv ⟨cnt, tma, tma, tac, false⟩ ⟨k1, k3, k3, k4⟩)) ?_
  refine kL ?_
  have hov : over = true := q0
  exact ZEu
 refine ZA7 ?_
 refine pH ?_
 refine aP K_ (aS (aEv ⟨cnt, tima, tma, tac, over⟩ ⟨k1, k2, k3, k4⟩)) ?_
 refine kL ?_
 have hov : over = false := q0
 exact ZEu
def aPQ (t : Tm) (h : t.Ok) (n : Int) (w : AI) : aG prog 162 [.agg (iZ t).toArray, .int .i64 n] w [] (V_ (.int .u8 (readTm n t))) := by
 obtain ⟨cnt, tima, tma, tac, over⟩ := t
 obtain ⟨k1, k2, k3, k4⟩ := h
 dsimp only at k1 k2 k3 k4
 refine aT func162 ?_
 refine ZAm ?_
 refine Ci fun b0 => ?_
 refine lS ?_
 refine KC (fun q0 z0 => ?_) (fun q0 z0 => ?_)
 ·refine ZBy ?_
  refine RW (iV U U M) U (qC 256 M M) (RW (gN U U U) U vQ (ZA7 ?_))
  exact E0 U ⟨U, Hx⟩
 refine ZBn ?_
 refine KC (fun q1 z1 => ?_) (fun q1 z1 => ?_)
 ·refine ZDG ?_
  exact E0 U ⟨U, Hx⟩
 refine ZBn ?_
 refine KC (fun q2 z2 => ?_) (fun q2 z2 => ?_)
 ·refine ZDG ?_
  exact E0 U ⟨U, Hx⟩
 refine ZBn ?_
 refine KC (fun q3 z3 => ?_) (fun q3 z3 => ?_)
 ·refine ZBy ?_
  refine RW (v := (.int .u8 (248 + tac % 8))) (dM U U) U (aD Z (aOt k4)) (ZA7 ?_)
  exact E0 U ⟨U, Hx⟩
 refine aI ?_
 exact E0 U ⟨U, Hx⟩
def aNa (t : Tm) (h : t.Ok) (n x : Int) (hx : 0 ≤ x ∧ x < 256) (w : AI) : aG prog 353 [.agg (iZ t).toArray, .int .i64 n, .int .u8 x] w [] (V_ (.agg (iZ (writeTm n x t)).toArray)) := by
 obtain ⟨cnt, tima, tma, tac, over⟩ := t
 obtain ⟨k1, k2, k3, k4⟩ := h
 dsimp only at k1 k2 k3 k4
 refine aT func353 ?_
 refine ZAm ?_
 refine Ci fun b0 => ?_
 refine RX (eM (l := [.int .u8 x]) U U) U ?_
 rintro _ _ ⟨b1, rfl, rfl⟩
 refine ZC2 ?_
 rintro _ _ ⟨b2, rfl, rfl⟩
 refine fJ ?_
 refine KC (fun q0 z0 => ?_) (fun q0 z0 => ?_)
 ·refine ZAm ?_
  refine pH ?_
  refine aP K_ (aS (aM5 ⟨cnt, tima, tma, tac, over⟩ ⟨k1, k2, k3, k4⟩)) ?_
  exact Hw
 refine ZBn ?_
 refine KC (fun q1 z1 => ?_) (fun q1 z1 => ?_)
 ·refine ZA7 ?_
  refine ZEq ?_
  refine kL ?_
  refine pH ?_
  exact Hw
 refine ZBn ?_
 refine KC (fun q2 z2 => ?_) (fun q2 z2 => ?_)
 ·refine ZA7 ?_
  refine iJ ?_
  refine pH ?_
  exact Hw
 refine ZBn ?_
 refine KC (fun q3 z3 => ?_) (fun q3 z3 => ?_)
 ·refine ZAm ?_
  refine pH ?_
  refine RW (v := (.func (.func 357) #[] #[P_ b1])) U U Fh (aP K_ (fun w hw => aK7 ⟨cnt, tima, tma, tac, over⟩ ⟨k1, k2, k3, k4⟩ x hx b1 w (aH (b := b1) (l := [.int .u8 x]) aE w hw)) ?_)
  exact Hw
 refine ZA7 ?_
 refine pH ?_
 exact Hw
def aOe (p : Pt) (h : p.Ok) (w : AI) : aG prog 387 [.agg (pQ p).toArray] w [] (V_ (.tuple #[.agg (pQ (tickPt p)).toArray, .bool (uF p)])) := by
 obtain ⟨data, control, last, bits, count, sent⟩ := p
 obtain ⟨k1, k2, k3, k4, k5, k6⟩ := h
 dsimp only at k1 k2 k3 k4 k5 k6
 refine aT func387 ?_
 refine Ra ?_
 refine vP fun b0 b1 => ?_
 refine bZ ?_
 refine KC (fun q0 z0 => ?_) (fun q0 z0 => ?_)
 ·refine ZAm ?_
  refine xU ?_
  refine iJ ?_
  have e1 : uF ⟨data, control, last, bits, count, sent⟩ = false := by unfold uF; dsimp only; simp only [al, ah]; omega
  exact aZ (fun w hw => gK U U U (aH (b := b1) aE w hw) U) ⟨U, Qk⟩
 refine aI ?_
 refine hY ?_
 refine kS ?_
 refine ZDG ?_
 refine KC (fun q1 z1 => ?_) (fun q1 z1 => ?_)
 ·refine ZAm ?_
  refine xU ?_
  refine iJ ?_
  have e1 : uF ⟨data, control, last, bits, count, sent⟩ = false := by unfold uF; dsimp only; simp only [al, ah]; omega
  exact aZ (fun w hw => gK U U U (aH (b := b1) aE w hw) U) ⟨U, Qk⟩
 refine ZBn ?_
 refine RW (iM U U M) U Zu (RW (v := (.int .u8 (data % 128 * 2 + 1))) (dM U U) U (aD Z (aHA k1)) (kS ?_))
 refine kS ?_
 refine aI ?_
 refine nT ?_
 refine kS ?_
 refine ZDG ?_
 refine KC (fun q2 z2 => ?_) (fun q2 z2 => ?_)
 ·refine ZAm ?_
  refine xU ?_
  refine iJ ?_
  have e1 : uF ⟨data, control, last, bits, count, sent⟩ = false := by unfold uF; dsimp only; simp only [al, ah]; omega
  exact aZ (fun w hw => gK U U U (aH (b := b1) aE w hw) U) ⟨U, Qk⟩
 refine ZBn ?_
 refine RW (v := (.int .u8 (control % 128))) (zI U U) U (aD Z (aJR k2)) (kL ?_)
 refine xU ?_
 refine iJ ?_
 have e1 : uF ⟨data, control, last, bits, count, sent⟩ = true := by unfold uF; dsimp only; simp only [al, ah]; omega
 exact aZ (fun w hw => gK U U U (aH (b := b1) aE w hw) U) ⟨U, Qk⟩
def aMs (p : Pt) (h : p.Ok) (w : AI) : aG prog 360 [.agg (pQ p).toArray] w [] (V_ (.agg (pQ (beginPt p)).toArray)) := by
 obtain ⟨data, control, last, bits, count, sent⟩ := p
 obtain ⟨k1, k2, k3, k4, k5, k6⟩ := h
 dsimp only at k1 k2 k3 k4 k5 k6
 refine aT func360 ?_
 refine Ra ?_
 refine vP fun b0 b1 => ?_
 refine aI ?_
 refine ZEq ?_
 refine kS ?_
 refine kS ?_
 refine ZBn ?_
 refine hY ?_
 refine qD ?_
 refine kL ?_
 refine xU ?_
 exact Px
def aL3 (p : Pt) (h : p.Ok) (n x : Int) (hx : 0 ≤ x ∧ x < 256) (w : AI) : aG prog 359 [.agg (pQ p).toArray, .int .i64 n, .int .u8 x] w [] (V_ (.agg (pQ (writePt n x p)).toArray)) := by
 obtain ⟨data, control, last, bits, count, sent⟩ := p
 obtain ⟨k1, k2, k3, k4, k5, k6⟩ := h
 dsimp only at k1 k2 k3 k4 k5 k6
 have hb := aNd hx
 refine aT func359 ?_
 refine Ra ?_
 refine vP fun b0 b1 => ?_
 refine fJ ?_
 refine KC (fun q0 z0 => ?_) (fun q0 z0 => ?_)
 ·refine ZA7 ?_
  refine iJ ?_
  refine xU ?_
  exact Nl
 refine ZBn ?_
 refine KC (fun q1 z1 => ?_) (fun q1 z1 => ?_)
 ·refine ZA7 ?_
  refine RW (v := (.int .u8 (x / 128 * 128 + x % 2))) (cM U U) U (aD Z hb) (kS ?_)
  refine kS ?_
  refine ZDG ?_
  refine KC (fun q2 z2 => ?_) (fun q2 z2 => ?_)
  ·refine ZAm ?_
   refine xU ?_
   refine aP K_ (aS (aMs ⟨data, x / 128 * 128 + x % 2, last, 0, count, sent⟩ ⟨k1, sV, k3, sV, k5, k6⟩)) ?_
   exact Nl
  refine ZA7 ?_
  refine xU ?_
  exact Nl
 refine ZA7 ?_
 refine xU ?_
 exact Nl
def aGT (p : Pt) (h : p.Ok) (n : Int) (w : AI) : aG prog 161 [.agg (pQ p).toArray, .int .i64 n] w [] (V_ (.int .u8 (readPt n p))) := by
 obtain ⟨data, control, last, bits, count, sent⟩ := p
 obtain ⟨k1, k2, k3, k4, k5, k6⟩ := h
 dsimp only at k1 k2 k3 k4 k5 k6
 refine aT func161 ?_
 refine Ra ?_
 refine ZBN fun b0 => ?_
 refine lS ?_
 refine KC (fun q0 z0 => ?_) (fun q0 z0 => ?_)
 ·refine ZDG ?_
  exact E0 U ⟨U, D6⟩
 refine ZBn ?_
 refine KC (fun q1 z1 => ?_) (fun q1 z1 => ?_)
 ·refine ZBy ?_
  refine RW (v := (.int .u8 (control / 128 * 128 + 126 + control % 2))) (dM U U) U (aD Z (aH0 k2)) (ZA7 ?_)
  exact E0 U ⟨U, D6⟩
 refine aI ?_
 exact E0 U ⟨U, D6⟩
def aBz (c : Cp) (h : c.Ok) (w : AI) : aG prog 361 [.agg (cCp c).toArray] w [] (V_ (.bool (yD c))) := by
 obtain ⟨page, left⟩ := c
 obtain ⟨k1, k2⟩ := h
 dsimp only at k1 k2
 refine aT func361 ?_
 refine Nh ?_
 refine ZBN fun b0 => ?_
 refine cL ?_
 exact E0 U ⟨U, U⟩
def aGc (c : Cp) (h : c.Ok) (w : AI) : aG prog 396 [.agg (cCp c).toArray] w [] (V_ (.int .u16 (fromCp c))) := by
 obtain ⟨page, left⟩ := c
 obtain ⟨k1, k2⟩ := h
 dsimp only at k1 k2
 refine aT func396 ?_
 refine Nh ?_
 refine ZBN fun b0 => ?_
 refine bZ ?_
 refine KC (fun q0 z0 => ?_) (fun q0 z0 => ?_)
 ·refine ZBy ?_
  refine RW (nA U U) U vQ (El ?_)
  refine RW (iM U U M) U Wz (ZA7 ?_)
  exact E0 U ⟨U, aDM⟩
 refine ZBn ?_
 refine El ?_
 refine RW (iM U U M) U Wz (ZA7 ?_)
 exact E0 U ⟨U, aDM⟩
def Nz (c : Cp) (x : Int) (w : AI) : aG prog 362 [.agg (cCp c).toArray, .int .u8 x] w [] (V_ (.agg (cCp (Fa x)).toArray)) := by
 refine aT func362 ?_
 refine ZAm ?_
 refine RX (eM (l := cCp c) U U) U (vP fun b0 b1 => ?_)
 refine ZBy ?_
 refine RS ?_
 exact Px
def aBr (c : Cp) (h : c.Ok) (a : Int) (w : AI) : aG prog 393 [.agg (cCp c).toArray, .int .u16 a] w [] (V_ (.bool (letsCp c a))) := by
 obtain ⟨page, left⟩ := c
 obtain ⟨k1, k2⟩ := h
 dsimp only at k1 k2
 refine aT func393 ?_
 refine Nh ?_
 refine ZBN fun b0 => ?_
 refine ZBy ?_
 refine yW ?_
 refine aP K_ (aS (aBz ⟨page, left⟩ ⟨k1, k2⟩)) ?_
 rw [show yD ⟨page, left⟩ = decide (0 < left) from rfl]
 refine ZBE ?_
 refine KL (fun q0 z0 => ?_) (fun q0 z0 => ?_)
 ·refine aI ?_
  exact E0 U ⟨U, (aD Value.bool (by unfold letsCp yD; simp_all))⟩
 refine aI ?_
 exact E0 U ⟨U, (aD Value.bool (by unfold letsCp yD; simp_all))⟩
def aFQ (c : Cp) (h : c.Ok) (w : AI) : aG prog 388 [.agg (cCp c).toArray] w [] (V_ (.tuple #[.agg (cCp (tickCp c)).toArray, .int .u16 (wR c), .int .i64 (De c), .bool (yD c)])) := by
 obtain ⟨page, left⟩ := c
 obtain ⟨k1, k2⟩ := h
 dsimp only at k1 k2
 refine aT func388 ?_
 refine Nh ?_
 refine vP fun b0 b1 => ?_
 refine ZDG ?_
 refine yW ?_
 refine aP K_ (aS (aBz ⟨page, left⟩ ⟨k1, k2⟩)) ?_
 rw [show yD ⟨page, left⟩ = decide (0 < left) from rfl]
 refine ZAm ?_
 refine KC (fun q0 z0 => ?_) (fun q0 z0 => ?_)
 ·refine ZAm ?_
  refine yW ?_
  refine ZEq ?_
  refine ZBn ?_
  have e0 : ¬ 0 < left := by simpa using q0
  exact aZ (fun w hw => aAp U U U (aH (b := b1) aE w hw) U U U) ⟨U, by unfold tickCp wR De; simp only [ae e0, cz e0]; rfl⟩
 refine ZBn ?_
 refine nT ?_
 refine ZBy ?_
 refine yW ?_
 refine aP K_ (aS (aGc ⟨page, left⟩ ⟨k1, k2⟩)) ?_
 refine ZBE ?_
 refine El ?_
 refine RW (v := (.int .u16 ((fromCp ⟨page, left⟩ + (160 - left)) % 65536))) U U ((Gy _).trans (aD _ I)) (aI ?_)
 refine nT ?_
 refine kL ?_
 refine yW ?_
 refine ZAm ?_
 refine ZEq ?_
 refine ZBn ?_
 have e0 : 0 < left := by simpa using q0
 exact aZ (fun w hw => aAp U U U (aH (b := b1) aE w hw) U U U) ⟨U, by unfold tickCp wR De; simp only [ag e0, ap e0]; rfl⟩
def opens_fn (x : Int) (hx : 0 ≤ x ∧ x < 256) (w : AI) : aG prog 351 [.int .u8 x] w [] (V_ (.bool (Lp x))) := by
 refine aT func351 ?_
 refine ZDG ?_
 refine sB ?_
 exact pI
def aLg (m : Bk) (h : m.Ok) (a x : Int) (ha : 0 ≤ a ∧ a < 32768) (hx : 0 ≤ x ∧ x < 256) (w : AI) : aG prog 347 [.agg (jY m).toArray, .int .u16 a, .int .u8 x] w [] (V_ (.agg (jY (oneB a x m)).toArray)) := by
 obtain ⟨kind, banks, ram, on, mode, low, high, last⟩ := m
 obtain ⟨k1, k2, k3, k4, k5, k6⟩ := h
 dsimp only at k1 k2 k3 k4 k5 k6
 refine aT func347 ?_
 refine ZAm ?_
 refine Ax fun b0 => ?_
 refine lE fun b1 => ?_
 refine ZBn ?_
 refine RW (iV U U M) U (qC 8192 M M) (ZDG ?_)
 refine KC (fun q0 z0 => ?_) (fun q0 z0 => ?_)
 ·refine Lh ?_
  refine sG ?_
  exact Lq
 refine ZBn ?_
 refine KC (fun q1 z1 => ?_) (fun q1 z1 => ?_)
 ·refine ZAm ?_
  refine RW (cM U U) U aFu (fB ?_)
  refine RY (Cz U U) U (sG ?_)
  exact Lq
 refine ZBn ?_
 refine KC (fun q2 z2 => ?_) (fun q2 z2 => ?_)
 ·refine ZAm ?_
  refine RW (cM U U) U (by first | exact qF 2 4 M rfl I (show _ < (256 : Int) by omega) (show _ < (256 : Int) by decide) | rfl) (fB ?_)
  refine sG ?_
  exact Lq
 refine ZAm ?_
 refine RW (cM U U) U Fk (ZAm ?_)
 refine iJ ?_
 refine uM ?_
 exact Lq
def aLl (m : Bk) (h : m.Ok) (a x : Int) (ha : 0 ≤ a ∧ a < 32768) (hx : 0 ≤ x ∧ x < 256) (w : AI) : aG prog 348 [.agg (jY m).toArray, .int .u16 a, .int .u8 x] w [] (V_ (.agg (jY (twoB a x m)).toArray)) := by
 obtain ⟨kind, banks, ram, on, mode, low, high, last⟩ := m
 obtain ⟨k1, k2, k3, k4, k5, k6⟩ := h
 dsimp only at k1 k2 k3 k4 k5 k6
 refine aT func348 ?_
 refine ZAm ?_
 refine Ax fun b0 => ?_
 refine lE fun b1 => ?_
 refine bZ ?_
 refine KC (fun q0 z0 => ?_) (fun q0 z0 => ?_)
 ·refine ZA7 ?_
  refine uM ?_
  exact B9
 refine ZA7 ?_
 refine RW (cM U U) U (by first | exact Bx 8 M I (show _ < (65536 : Int) by omega) (show _ < (65536 : Int) by decide) | rfl) (ZA7 ?_)
 refine KC (fun q1 z1 => ?_) (fun q1 z1 => ?_)
 ·refine Lh ?_
  refine sG ?_
  exact B9
 refine ZAm ?_
 refine sB ?_
 refine fB ?_
 refine RY (Cz U U) U (sG ?_)
 exact B9
def aPC (m : Bk) (h : m.Ok) (a x : Int) (ha : 0 ≤ a ∧ a < 32768) (hx : 0 ≤ x ∧ x < 256) (w : AI) : aG prog 349 [.agg (jY m).toArray, .int .u16 a, .int .u8 x] w [] (V_ (.tuple #[.agg (jY (threeB a x m)).toArray, .bool (heldB a x m)])) := by
 obtain ⟨kind, banks, ram, on, mode, low, high, last⟩ := m
 obtain ⟨k1, k2, k3, k4, k5, k6⟩ := h
 dsimp only at k1 k2 k3 k4 k5 k6
 refine aT func349 ?_
 refine ZAm ?_
 refine Ax fun b0 => ?_
 refine lE fun b1 => ?_
 refine cL ?_
 refine RW (iV U U M) U (qC 8192 M M) (ZDG ?_)
 refine KC (fun q0 z0 => ?_) (fun q0 z0 => ?_)
 ·refine Lh ?_
  refine sG ?_
  refine kL ?_
  exact Qw
 refine ZBn ?_
 refine KC (fun q1 z1 => ?_) (fun q1 z1 => ?_)
 ·refine ZAm ?_
  refine RW (cM U U) U (by first | exact qF 7 128 M rfl I (show _ < (256 : Int) by omega) (show _ < (256 : Int) by decide) | rfl) (fB ?_)
  refine RY (Cz U U) U (sG ?_)
  refine kL ?_
  exact Qw
 refine ZBn ?_
 refine KC (fun q2 z2 => ?_) (fun q2 z2 => ?_)
 ·refine ZAm ?_
  refine sB ?_
  refine fB ?_
  refine sG ?_
  refine kL ?_
  exact Qw
 refine ZBn ?_
 refine KL (fun q3 z3 => ?_) (fun q3 z3 => ?_)
 ·refine bA ?_
  refine iJ ?_
  refine uM ?_
  refine kL ?_
  have e1 : heldB a x ⟨kind, banks, ram, on, mode, low, high, last⟩ = (x == 1) := by unfold heldB; dsimp only; rw [fo]; simp only [al, ci, ep, iff_false]; omega
  exact aZ (fun w hw => gK U U U (aH (b := b1) aE w hw) U) ⟨U, y_U⟩
 refine bA ?_
 refine iJ ?_
 refine uM ?_
 refine kL ?_
 exact Qw
def aKD (m : Bk) (h : m.Ok) (a x : Int) (ha : 0 ≤ a ∧ a < 32768) (hx : 0 ≤ x ∧ x < 256) (w : AI) : aG prog 350 [.agg (jY m).toArray, .int .u16 a, .int .u8 x] w [] (V_ (.agg (jY (fiveB a x m)).toArray)) := by
 obtain ⟨kind, banks, ram, on, mode, low, high, last⟩ := m
 obtain ⟨k1, k2, k3, k4, k5, k6⟩ := h
 dsimp only at k1 k2 k3 k4 k5 k6
 refine aT func350 ?_
 refine ZAm ?_
 refine Ax fun b0 => ?_
 refine lE fun b1 => ?_
 refine ZBn ?_
 refine RW (iV U U M) U (qC 4096 M M) (bA ?_)
 refine KC (fun q0 z0 => ?_) (fun q0 z0 => ?_)
 ·refine ZBE ?_
  refine pE true U q0 ?_
  refine Lh ?_
  refine sG ?_
  exact Dp
 refine ZBy ?_
 refine KC (fun q1 z1 => ?_) (fun q1 z1 => ?_)
 ·refine Lh ?_
  refine sG ?_
  exact Dp
 refine ZBn ?_
 refine KC (fun q2 z2 => ?_) (fun q2 z2 => ?_)
 ·refine ZA7 ?_
  refine RW (v := (.int .i64 (low / 256 * 256))) (zI U U) U (aD (Value.int .i64) (W7 (n := low) I I)) (nD ?_)
  refine RW (v := (.int .i64 (low / 256 * 256 + x))) (dM U U) U (aD (Value.int .i64) (Xq (A := low / 256 * 256) I I I hx)) (sG ?_)
  exact Dp
 refine ZBn ?_
 refine KC (fun q3 z3 => ?_) (fun q3 z3 => ?_)
 ·refine ZA7 ?_
  refine RW (v := (.int .i64 (low % 256))) (cM U U) U (aD _ (aBH _)) (ZBE ?_)
  refine RW (cM U U) U Fk (fB ?_)
  refine RW (iM U U M) U Ld (RW (v := (.int .i64 (low % 256 + x % 2 * 256))) (dM U U) U (aD (Value.int .i64) (Ub (A := x % 2 * 256) I I I I)) (sG ?_))
  exact Dp
 refine aI ?_
 refine KC (fun q4 z4 => ?_) (fun q4 z4 => ?_)
 ·refine ZBE ?_
  refine pE true U q4 ?_
  refine ZAm ?_
  refine sB ?_
  refine fB ?_
  refine sG ?_
  exact Dp
 refine ZBy ?_
 refine KC (fun q5 z5 => ?_) (fun q5 z5 => ?_)
 ·refine ZAm ?_
  refine sB ?_
  refine fB ?_
  refine sG ?_
  exact Dp
 refine ZA7 ?_
 refine uM ?_
 exact Dp
def aI4 (m : Bk) (h : m.Ok) (a x : Int) (ha : 0 ≤ a ∧ a < 65536) (hx : 0 ≤ x ∧ x < 256) (w : AI) : aG prog 346 [.agg (jY m).toArray, .int .u16 a, .int .u8 x] w [] (V_ (.tuple #[.agg (jY (writeB a x m)).toArray, .bool (latchB a x m)])) := by
 obtain ⟨kind, banks, ram, on, mode, low, high, last⟩ := m
 obtain ⟨k1, k2, k3, k4, k5, k6⟩ := h
 dsimp only at k1 k2 k3 k4 k5 k6
 refine aT func346 ?_
 refine ZAm ?_
 refine Ax fun b0 => ?_
 refine lE fun b1 => ?_
 refine ZBn ?_
 refine RW (cM U U) U (by first | exact qF 15 32768 M rfl I (show _ < (65536 : Int) by omega) (show _ < (65536 : Int) by decide) | rfl) (jN ?_)
 refine KC (fun q0 z0 => ?_) (fun q0 z0 => ?_)
 ·refine ZAm ?_
  refine uM ?_
  refine ZAm ?_
  refine aP K_ (aS (aLg ⟨kind, banks, ram, on, mode, low, high, last⟩ ⟨k1, k2, k3, k4, k5, k6⟩ (a % 32768) x I hx)) ?_
  refine iJ ?_
  exact Uc
 refine ZBn ?_
 refine KC (fun q1 z1 => ?_) (fun q1 z1 => ?_)
 ·refine ZAm ?_
  refine uM ?_
  refine ZAm ?_
  refine aP K_ (aS (aLl ⟨kind, banks, ram, on, mode, low, high, last⟩ ⟨k1, k2, k3, k4, k5, k6⟩ (a % 32768) x I hx)) ?_
  refine iJ ?_
  exact Uc
 refine ZBn ?_
 refine KC (fun q2 z2 => ?_) (fun q2 z2 => ?_)
 ·refine ZAm ?_
  refine uM ?_
  refine ZAm ?_
  refine aP K_ (aS (aPC ⟨kind, banks, ram, on, mode, low, high, last⟩ ⟨k1, k2, k3, k4, k5, k6⟩ (a % 32768) x I hx)) ?_
  refine ZAm ?_
  refine iJ ?_
  have e1 : latchB a x ⟨kind, banks, ram, on, mode, low, high, last⟩ = heldB (a % 32768) x ⟨kind, banks, ram, on, mode, low, high, last⟩ := by unfold latchB; simp_all
  exact aZ (fun w hw => gK U U U (aH (b := b1) aE w hw) U) ⟨U, y_T⟩
 refine ZBn ?_
 refine KC (fun q3 z3 => ?_) (fun q3 z3 => ?_)
 ·refine ZAm ?_
  refine uM ?_
  refine ZAm ?_
  refine aP K_ (aS (aKD ⟨kind, banks, ram, on, mode, low, high, last⟩ ⟨k1, k2, k3, k4, k5, k6⟩ (a % 32768) x I hx)) ?_
  refine iJ ?_
  exact Uc
 refine ZA7 ?_
 refine uM ?_
 refine iJ ?_
 exact Uc
def aDb (m : Bk) (h : m.Ok) (hb : 0 < m.banks) (a : Int) (ha : 0 ≤ a ∧ a < 65536) (w : AI) : aG prog 152 [.agg (jY m).toArray, .int .u16 a] w [] (V_ (.int .i64 (bankB a m))) := by
 obtain ⟨kind, banks, ram, on, mode, low, high, last⟩ := m
 obtain ⟨k1, k2, k3, k4, k5, k6⟩ := h
 dsimp only at k1 k2 k3 k4 k5 k6 hb
 refine aT func152 ?_
 refine ZAm ?_
 refine Ax fun b0 => ?_
 refine bZ ?_
 refine RW (cM U U) U (by first | exact Bx 14 M I (show _ < (65536 : Int) by omega) (show _ < (65536 : Int) by decide) | rfl) (lZ ?_)
 refine KC (fun q0 z0 => ?_) (fun q0 z0 => ?_)
 ·refine ZBy ?_
  refine KC (fun q1 z1 => ?_) (fun q1 z1 => ?_)
  ·refine bA ?_
   exact Bh
  exact Bo
 refine ZBn ?_
 refine KC (fun q1 z1 => ?_) (fun q1 z1 => ?_)
 ·refine ZBy ?_
  refine KL (fun q2 z2 => ?_) (fun q2 z2 => ?_)
  ·refine bA ?_
   refine RW (iM U U M) U aBe (aI ?_)
   refine KC (fun q3 z3 => ?_) (fun q3 z3 => ?_)
   ·refine ZBy ?_
    refine hY ?_
    refine ZDG ?_
    exact Bh
   exact Bo
  refine ZBy ?_
  refine KC (fun q3 z3 => ?_) (fun q3 z3 => ?_)
  ·refine ZA7 ?_
   refine RW (iM U U M) U aBe (aI ?_)
   exact ZE1
  refine ZBn ?_
  exact ZE1
 refine aI ?_
 refine KC (fun q2 z2 => ?_) (fun q2 z2 => ?_)
 ·refine ZBE ?_
  refine pE true U q2 ?_
  refine ZBy ?_
  refine KC (fun q3 z3 => ?_) (fun q3 z3 => ?_)
  ·refine cL ?_
   exact Bh
  exact Bo
 refine ZBn ?_
 refine KC (fun q3 z3 => ?_) (fun q3 z3 => ?_)
 ·refine ZBE ?_
  refine pE true U q3 ?_
  refine ZBy ?_
  refine KC (fun q4 z4 => ?_) (fun q4 z4 => ?_)
  ·refine cL ?_
   exact Bh
  exact Bo
 refine ZBy ?_
 refine KC (fun q4 z4 => ?_) (fun q4 z4 => ?_)
 ·refine ZBy ?_
  refine KC (fun q5 z5 => ?_) (fun q5 z5 => ?_)
  ·refine cL ?_
   exact Bh
  exact Bo
 exact Bo
def aJh (m : Bk) (h : m.Ok) (hb : 0 < m.banks) (a : Int) (ha : 0 ≤ a ∧ a < 65536) (w : AI) : aG prog 124 [.agg (jY m).toArray, .int .u16 a] w [] (V_ (.int .i64 (Dg a m))) := by
 have hb9 := aA2 h a
 have hb8 := h.banks
 refine aT func124 ?_
 refine ZAm ?_
 refine RX (eM (l := jY m) U U) U (ZBN fun b0 => ?_)
 refine ZBy ?_
 refine uM ?_
 refine ZBE ?_
 refine aP K_ (aS (aDb m h hb a ha)) ?_
 refine rU ?_
 refine nD ?_
 refine qD ?_
 refine hY ?_
 exact fN
def atB_fn (m : Bk) (h : m.Ok) (a : Int) (ha : 0 ≤ a ∧ a < 65536) (w : AI) : aG prog 159 [.agg (jY m).toArray, .int .u16 a] w [] (V_ (atT (atB_ a m))) := by
 obtain ⟨kind, banks, ram, on, mode, low, high, last⟩ := m
 obtain ⟨k1, k2, k3, k4, k5, k6⟩ := h
 dsimp only at k1 k2 k3 k4 k5 k6
 refine aT func159 ?_
 refine ZAm ?_
 refine Ax fun b0 => ?_
 refine ZBn ?_
 rcases on with _ | _
 ·refine ZA7 ?_
  refine KL (fun q0 z0 => ?_) (fun q0 z0 => ?_)
  ·refine K5 ?_
   exact aZ (fun _ _ => eY U U) ⟨U, yG⟩
  refine ZA7 ?_
  refine KL (fun q1 z1 => ?_) (fun q1 z1 => ?_)
  ·refine xN ?_
   exact aZ (fun _ _ => eY U U) ⟨U, yG⟩
  refine ZAm ?_
  refine iX ?_
  refine jN ?_
  exact aZ (fun _ _ => eY U U) ⟨U, yG⟩
 refine ZA7 ?_
 refine KL (fun q0 z0 => ?_) (fun q0 z0 => ?_)
 ·refine K5 ?_
  exact aZ (fun _ _ => eY U U) ⟨U, yG⟩
 refine ZA7 ?_
 refine KL (fun q1 z1 => ?_) (fun q1 z1 => ?_)
 ·refine xN ?_
  exact aZ (fun _ _ => eY U U) ⟨U, yG⟩
 refine ZAm ?_
 refine jM ?_
 refine ZDG ?_
 refine KC (fun q2 z2 => ?_) (fun q2 z2 => ?_)
 ·refine aI ?_
  exact aZ (fun _ _ => eY U U) ⟨U, yG⟩
 refine ZBy ?_
 refine fB ?_
 refine qD ?_
 refine jN ?_
 refine KC (fun q3 z3 => ?_) (fun q3 z3 => ?_)
 ·refine aI ?_
  exact Ef
 refine ZBn ?_
 refine KC (fun q4 z4 => ?_) (fun q4 z4 => ?_)
 ·refine ZBE ?_
  rcases mode with _ | _
  ·refine ZBy ?_
   refine pE false U U ?_
   refine aI ?_
   exact Ef
  refine ZBy ?_
  refine pE true U U ?_
  refine ZBy ?_
  refine rU ?_
  refine hY ?_
  refine ZDG ?_
  exact Ef
 refine ZBn ?_
 refine KC (fun q5 z5 => ?_) (fun q5 z5 => ?_)
 ·refine ZAm ?_
  refine qD ?_
  refine ZDG ?_
  exact Ef
 refine ZBn ?_
 refine KC (fun q6 z6 => ?_) (fun q6 z6 => ?_)
 ·refine ZDG ?_
  refine KC (fun q7 z7 => ?_) (fun q7 z7 => ?_)
  ·refine aI ?_
   exact aZ (fun _ _ => eY U U) ⟨U, yG⟩
  refine ZBn ?_
  refine rU ?_
  refine hY ?_
  refine ZDG ?_
  exact Ef
 refine ZBn ?_
 refine KC (fun q7 z7 => ?_) (fun q7 z7 => ?_)
 ·refine ZBy ?_
  refine rU ?_
  refine hY ?_
  refine ZDG ?_
  exact Ef
 refine aI ?_
 exact aZ (fun _ _ => eY U U) ⟨U, yG⟩
def clockB_fn (m : Bk) (h : m.Ok) (w : AI) : aG prog 157 [.agg (jY m).toArray] w [] (V_ (atT (clockB m))) := by
 obtain ⟨kind, banks, ram, on, mode, low, high, last⟩ := m
 obtain ⟨k1, k2, k3, k4, k5, k6⟩ := h
 dsimp only at k1 k2 k3 k4 k5 k6
 refine aT func157 ?_
 refine ZAm ?_
 refine Ax fun b0 => ?_
 refine ZBn ?_
 rcases on with _ | _
 ·refine ZBy ?_
  refine KL (fun q0 z0 => ?_) (fun q0 z0 => ?_)
  ·refine Gv ?_
   exact aZ (fun _ _ => eY U U) ⟨U, Gg⟩
  refine ZAm ?_
  refine iX ?_
  refine Bw ?_
  exact aZ (fun _ _ => eY U U) ⟨U, Gg⟩
 refine ZBy ?_
 refine KL (fun q0 z0 => ?_) (fun q0 z0 => ?_)
 ·refine Gv ?_
  exact aZ (fun _ _ => eY U U) ⟨U, Gg⟩
 refine ZAm ?_
 refine jM ?_
 refine aI ?_
 refine KL (fun q1 z1 => ?_) (fun q1 z1 => ?_)
 ·refine fJ ?_
  exact aZ (fun _ _ => eY U U) ⟨U, Gg⟩
 refine ZBn ?_
 refine KC (fun q2 z2 => ?_) (fun q2 z2 => ?_)
 ·refine aI ?_
  exact aZ (fun _ _ => eY U U) ⟨U, Gg⟩
 refine ZBn ?_
 refine nT ?_
 refine ZBy ?_
 exact aZ (fun _ _ => eY U U) ⟨U, Gg⟩
def aGH (ti : ByteArray) (kind banks ram : Int) (cl ba wh : Bool) (w : AI) : aG prog 28 [.agg #[.string ti, .int .i64 kind, .bool cl, .bool ba, .int .i64 banks, .int .i64 ram, .bool wh]] w [] (V_ (.agg (jY ⟨kind, banks, ram, decide (kind = 0), false, 1, 0, 255⟩).toArray)) := by
 refine aT func28 ?_
 refine ZAm ?_
 refine RX (eM (l := [.string ti, .int .i64 kind, .bool cl, .bool ba, .int .i64 banks, .int .i64 ram, .bool wh]) U U) U (vP fun b0 b1 => ?_)
 refine fJ ?_
 refine RS ?_
 exact Px
def B3 (p : Pd) (w : AI) : aG prog 194 [.agg (mT p).toArray] w [] (V_ (.int .u8 (xY p))) := by
 obtain ⟨sel, down⟩ := p
 refine aT func194 ?_
 refine Sf ?_
 refine ZBN fun b0 => ?_
 refine iG ?_
 refine RW (v := (.int .u8 (aQ .u8 sel 16))) (cM U U) U U (ZAm ?_)
 refine KC (fun q0 z0 => ?_) (fun q0 z0 => ?_)
 ·refine ZBy ?_
  refine RY (dM U U) U (ZDG ?_)
  refine RW (v := (.int .u8 (aQ .u8 sel 32))) (cM U U) U U (ZAm ?_)
  refine KC (fun q1 z1 => ?_) (fun q1 z1 => ?_)
  ·refine ZBy ?_
   refine RW (v := (.int .u8 (shr .u8 down 4))) (iV U U M) U U (RY (dM U U) U (ZBn ?_))
   refine Nm ?_
   exact E0 U ⟨U, (by unfold xY Dx; dsimp only; rw [ag z1, ag z0])⟩
  refine ZBy ?_
  refine Nm ?_
  exact E0 U ⟨U, (by unfold xY Dx; dsimp only; rw [ae z1, ag z0])⟩
 refine aI ?_
 refine RW (v := (.int .u8 (aQ .u8 sel 32))) (cM U U) U U (ZAm ?_)
 refine KC (fun q1 z1 => ?_) (fun q1 z1 => ?_)
 ·refine ZBy ?_
  refine RW (v := (.int .u8 (shr .u8 down 4))) (iV U U M) U U (RY (dM U U) U (ZBn ?_))
  refine Nm ?_
  exact E0 U ⟨U, (by unfold xY Dx; dsimp only; rw [ag z1, ae z0])⟩
 refine ZBy ?_
 refine Nm ?_
 exact E0 U ⟨U, (by unfold xY Dx; dsimp only; rw [ae z1, ae z0])⟩
def aKL (p : Pd) (w : AI) : aG prog 160 [.agg (mT p).toArray] w [] (V_ (.int .u8 (Sh p))) := by
 obtain ⟨sel, down⟩ := p
 refine aT func160 ?_
 refine Sf ?_
 refine ZBN fun b0 => ?_
 refine ZA7 ?_
 refine DR [4, 5, 6, 7] (bW [0, 2, 4, 6, 8, 11, 12, 14, 16, 18]) ?_
 refine ZAm ?_
 refine DW (v := (.int .u8 (aQ .u8 sel 48))) U U U U (DW (v := _) U U U U (gL U U U U Pf U U ?_))
 refine DZ U (dG K_ U (aS (B3 ⟨sel, down⟩))) U jB (DW (v := (.int .u8 (mK .u8 255 (xY ⟨sel, down⟩)))) U U U U (DW (v := _) U U U U (DW (v := _) U U U U ?_)))
 exact fN
def aDu (p q : Pd) (w : AI) : aG prog 210 [.agg (mT p).toArray, .agg (mT q).toArray] w [] (V_ (.tuple #[.agg (mT q).toArray, .bool (xB p q)])) := by
 refine aT func210 ?_
 refine ZAm ?_
 refine RX (eM (l := mT p) U U) U (ZBN fun b0 => ?_)
 refine RX (eM (l := mT q) U U) U ?_
 rintro _ _ ⟨b1, rfl, rfl⟩
 refine ZC2 ?_
 rintro _ _ ⟨b2, rfl, rfl⟩
 refine ZA7 ?_
 refine DR [1, 2, 3, 4, 5, 6] (bW [0, 2, 6, 5, 9, 10, 12, 15, 16]) ?_
 refine gL U U U U Pf U U ?_
 refine gL U U U U Pf U U ?_
 refine gL U U U U Pf U U ?_
 refine DZ U (dG K_ U (aS (B3 q))) U jB (DZ U (dG K_ U (aS (B3 p))) U jB (DW (v := _) U U U U (ZBE ?_)))
 refine DZ U iB U aW (ZA7 ?_)
 exact aZ (fun w hw => gK U U U (aH (b := b2) aE w hw) U) ⟨U, U⟩
def aOM (p : Pd) (x : Int) (w : AI) : aG prog 358 [.agg (mT p).toArray, .int .u8 x] w [] (V_ (.tuple #[.agg (mT (qN x p)).toArray, .bool (xB p (qN x p))])) := by
 obtain ⟨sel, down⟩ := p
 refine aT func358 ?_
 refine Sf ?_
 refine vP fun b0 b1 => ?_
 refine ZBy ?_
 refine yW ?_
 refine ZBE ?_
 refine RW (v := (.int .u8 (aQ .u8 x 48))) U U U (ZAm ?_)
 refine RS ?_
 refine aP K_ (aS (aDu ⟨sel, down⟩ (qN x ⟨sel, down⟩))) ?_
 refine ZAm ?_
 exact ZEr
def aHT (p : Pd) (x : Int) (w : AI) : aG prog 173 [.agg (mT p).toArray, .int .u8 x] w [] (V_ (.tuple #[.agg (mT (rH x p)).toArray, .bool (xB p (rH x p))])) := by
 obtain ⟨sel, down⟩ := p
 refine aT func173 ?_
 refine Sf ?_
 refine vP fun b0 b1 => ?_
 refine ZBy ?_
 refine yW ?_
 refine ZA7 ?_
 refine RS ?_
 refine aP K_ (aS (aDu ⟨sel, down⟩ (rH x ⟨sel, down⟩))) ?_
 refine ZAm ?_
 exact ZEr
def aI8 (l : List gH) (a : AC) (cp : Nat) (hll : l.length ≤ 1000000) (n : Int) (w : AI) (hE : iY w pX a l) : aG prog 174 [.slice a l.length cp, .int .u64 n] w [] (V_ (.int .u8 (jX l n))) := by
 refine aT func174 ?_
 refine fJ ?_
 refine oS ?_
 refine uV (σ := Nat × AH) [5, 6, 7, 10, 11, 12, 13, 14, 15, 16, 17, 18, 19, 20, 21, 22, 23, 24, 25, 26, 27, 28, 29, 30, 31, 32, 33, 34, 35, 36, 37, 38] (fun q => [(5, q.2), (10, .int .i64 q.1)]) (fun q => q.1 ≤ l.length ∧ ((Cc n (l.take q.1) = none ∧ q.2 = .pointer none) ∨ ∃ c0, Cc n (l.take q.1) = some c0 ∧ ∃ b0 o0, q.2 = .pointer (some ⟨b0, o0, none⟩) ∧ w.cell? ⟨b0, o0, none⟩ = some (.int .u64 c0.at_) ∧ w.cell? ⟨b0, o0 + 1, none⟩ = some (.int .u8 c0.down))) (fun q => l.length - q.1) (0, .pointer none) ?_ ?_ ?_
 ·exact ⟨av _, .inl ⟨U, U⟩⟩
 ·exact .cons U (.cons U .nil)
 rintro ⟨i, pv⟩ y3 ⟨hi, hb9⟩
 dsimp only at hi hb9 ⊢
 refine ZBn ?_
 refine KC (fun q0 z0 => ?_) (fun q0 z0 => ?_)
 ·refine ZBy ?_
  obtain ⟨bx, ox, rfl, hrx⟩ := hE.row (i := i) I
  obtain ⟨c, hcx0⟩ : ∃ c, l[i]? = some c := ⟨_, am I⟩
  refine bA ?_
  refine RY (fO (s := 2) i U U U U I) U (ZA7 ?_)
  rcases hb9 with ⟨hb, rfl⟩ | ⟨c0, hb, b0, o0, rfl, hc0, hc1⟩
  ·refine DR [4, 14, 15, 16, 17] (bW [0, 2, 4, 6, 8, 10, 12, 14, 16, 18, 20, 22, 24, 26, 28, 30, 32, 34, 36, 38, 40]) ?_
   refine ZA7 ?_
   refine DL U U U (fun w hw => Vg) U (ZAm ?_)
   refine KE (fun q1 z1 => ?_) (fun q1 z1 => ?_)
   ·refine ZBE ?_
    refine Vz true U U U U U ?_
    refine Bw ?_
    refine jF ?_
    exact ⟨(i + 1, _), ⟨aR, .inr ⟨c, by rw [best_step hcx0, hb]; exact aEH I rfl, _, _, U, aEa, P2⟩⟩, Hl, .cons U (.cons U .nil), bJ, fun _ h => h⟩
   refine sJ ?_
   refine jF ?_
   exact ⟨(i + 1, _), ⟨aR, .inl ⟨aC3, U⟩⟩, Hl, .cons U (.cons U .nil), bJ, fun _ h => h⟩
  refine DR [4, 14, 15, 16, 17] (bW [0, 2, 4, 6, 8, 10, 12, 14, 16, 18, 20, 22, 24, 26, 28, 30, 32, 34, 36, 38, 40]) ?_
  refine ZA7 ?_
  refine DL U U U (fun w hw => Vg) U (ZAm ?_)
  refine KE (fun q1 z1 => ?_) (fun q1 z1 => ?_)
  ·refine ZBE ?_
   refine Vz false U U U U U ?_
   refine ZBy ?_
   refine DL U U U (fun w hw => Vg) U (ZA7 ?_)
   refine DL U U U (gD hc0 aL) U (ZBy ?_)
   refine KC (fun q2 z2 => ?_) (fun q2 z2 => ?_)
   ·refine ZBn ?_
    refine jF ?_
    exact ⟨(i + 1, _), ⟨aR, .inr ⟨c, by rw [best_step hcx0, hb]; exact aEH I (ap I), _, _, U, aEa, P2⟩⟩, Hl, .cons U (.cons U .nil), bJ, fun _ h => h⟩
   refine ZAm ?_
   refine jF ?_
   exact ⟨(i + 1, _), ⟨aR, .inr ⟨c0, by rw [best_step hcx0, hb]; exact better_no (.inr (cz I)), b0, o0, U, hc0, hc1⟩⟩, Hl, .cons U (.cons U .nil), bJ, fun _ h => h⟩
  refine sJ ?_
  refine jF ?_
  exact ⟨(i + 1, _), ⟨aR, .inr ⟨c0, aC3, b0, o0, U, hc0, hc1⟩⟩, Hl, .cons U (.cons U .nil), bJ, fun _ h => h⟩
 refine ZA7 ?_
 obtain rfl : i = l.length := by omega
 rw [dq] at hb9
 rcases hb9 with ⟨hb, rfl⟩ | ⟨c0, hb, b0, o0, rfl, hc0, hc1⟩
 ·refine ZAm ?_
  refine iX ?_
  refine ZDG ?_
  exact E0 U ⟨U, (by unfold jX; rw [hb])⟩
 refine ZAm ?_
 refine jM ?_
 refine bA ?_
 refine W (aX U U (cB hc1 aL)) U (ZA7 ?_)
 exact E0 U ⟨U, (by unfold jX; rw [hb])⟩
def aLh (b : Nat) (s m h day sub : Int) (halt carry : Bool) (d0 d1 d2 d3 d4 : Int) (k : 0 ≤ s ∧ s < 256) (w : AI) (hst : St w [b] [(b, J [.int .u8 s, .int .u8 m, .int .u8 h, .int .i64 day, .int .i64 sub, .bool halt, .bool carry, .int .u8 d0, .int .u8 d1, .int .u8 d2, .int .u8 d3, .int .u8 d4] 113)] w) : aG prog 402 [P_ b, .int .u8 63, .int .u8 60] w [b] (fun v H => v = .bool (decide ((s + 1) % 64 = 60)) ∧ H = [(b, J [.int .u8 (if (s + 1) % 64 = 60 then 0 else (s + 1) % 64), .int .u8 m, .int .u8 h, .int .i64 day, .int .i64 sub, .bool halt, .bool carry, .int .u8 d0, .int .u8 d1, .int .u8 d2, .int .u8 d3, .int .u8 d4] 113)]) := by
 refine cE func402 hst ?_
 refine cL ?_
 refine rS ?_
 refine ZBE ?_
 refine RW (v := (.int .u8 ((s + 1) % 64))) (cM U U) U (aD Z (eH (p := fun x => aQ .u8 ((x + 1) % 256) 63 = (x + 1) % 64) eU k.1 k.2)) (kS ?_)
 refine cL ?_
 refine KC (fun q0 z0 => ?_) (fun q0 z0 => ?_)
 ·refine ZBn ?_
  exact EV U aJ ⟨aD Value.bool (cz z0).symm, by rw [ae z0]; rfl⟩
 refine ZBn ?_
 refine ZEq ?_
 exact Zs
def aHb (b : Nat) (s m h day sub : Int) (halt carry : Bool) (d0 d1 d2 d3 d4 : Int) (k : 0 ≤ m ∧ m < 256) (w : AI) (hst : St w [b] [(b, J [.int .u8 s, .int .u8 m, .int .u8 h, .int .i64 day, .int .i64 sub, .bool halt, .bool carry, .int .u8 d0, .int .u8 d1, .int .u8 d2, .int .u8 d3, .int .u8 d4] 113)] w) : aG prog 402 [.pointer (some ⟨b, 1, none⟩), .int .u8 63, .int .u8 60] w [b] (fun v H => v = .bool (decide ((m + 1) % 64 = 60)) ∧ H = [(b, J [.int .u8 s, .int .u8 (if (m + 1) % 64 = 60 then 0 else (m + 1) % 64), .int .u8 h, .int .i64 day, .int .i64 sub, .bool halt, .bool carry, .int .u8 d0, .int .u8 d1, .int .u8 d2, .int .u8 d3, .int .u8 d4] 113)]) := by
 refine cE func402 hst ?_
 refine cL ?_
 refine rS ?_
 refine ZBE ?_
 refine RW (v := (.int .u8 ((m + 1) % 64))) (cM U U) U (aD Z (eH (p := fun x => aQ .u8 ((x + 1) % 256) 63 = (x + 1) % 64) eU k.1 k.2)) (kS ?_)
 refine cL ?_
 refine KC (fun q0 z0 => ?_) (fun q0 z0 => ?_)
 ·refine ZBn ?_
  exact EV U aJ ⟨aD Value.bool (cz z0).symm, by rw [ae z0]; rfl⟩
 refine ZBn ?_
 refine ZEq ?_
 exact Zs
def aKf (b : Nat) (s m h day sub : Int) (halt carry : Bool) (d0 d1 d2 d3 d4 : Int) (k : 0 ≤ h ∧ h < 256) (w : AI) (hst : St w [b] [(b, J [.int .u8 s, .int .u8 m, .int .u8 h, .int .i64 day, .int .i64 sub, .bool halt, .bool carry, .int .u8 d0, .int .u8 d1, .int .u8 d2, .int .u8 d3, .int .u8 d4] 113)] w) : aG prog 402 [.pointer (some ⟨b, 2, none⟩), .int .u8 31, .int .u8 24] w [b] (fun v H => v = .bool (decide ((h + 1) % 32 = 24)) ∧ H = [(b, J [.int .u8 s, .int .u8 m, .int .u8 (if (h + 1) % 32 = 24 then 0 else (h + 1) % 32), .int .i64 day, .int .i64 sub, .bool halt, .bool carry, .int .u8 d0, .int .u8 d1, .int .u8 d2, .int .u8 d3, .int .u8 d4] 113)]) := by
 refine cE func402 hst ?_
 refine cL ?_
 refine rS ?_
 refine ZBE ?_
 refine RW (v := (.int .u8 ((h + 1) % 32))) (cM U U) U (aD Z (eH (p := fun x => aQ .u8 ((x + 1) % 256) 31 = (x + 1) % 32) eU k.1 k.2)) (kS ?_)
 refine cL ?_
 refine KC (fun q0 z0 => ?_) (fun q0 z0 => ?_)
 ·refine ZBn ?_
  exact EV U aJ ⟨aD Value.bool (cz z0).symm, by rw [ae z0]; rfl⟩
 refine ZBn ?_
 refine ZEq ?_
 exact Zs
def aG3 (b : Nat) (c : Ck) (hc : c.Fo) (w : AI) (hst : St w [b] [(b, J (nJ c) 113)] w) : aG prog 373 [P_ b] w [b] (fun v H => v = .tuple #[] ∧ H = [(b, J (nJ (secCk c)) 113)]) := by
 obtain ⟨s, m, h, day, sub, halt, carry, d0, d1, d2, d3, d4⟩ := c
 obtain ⟨k1, k2, k3, k4, k5⟩ := hc
 dsimp only at k1 k2 k3 k4
 refine cE func373 hst ?_
 refine aI ?_
 refine W (gY K_ U (kD (aLh b s m h day sub halt carry d0 d1 d2 d3 d4 k1))) U (ZBE ?_)
 refine KL (fun q0 z0 => ?_) (fun q0 z0 => ?_)
 ·refine Fy ?_
  have e1 : ¬ (s + 1) % 64 = 60 := by simpa using q0
  exact EN aJ ⟨U, by unfold secCk dayCk; simp only [e1, ne_eq, not_true_eq_false, not_false_eq_true, if_true, if_false]; rfl⟩
 refine ZA7 ?_
 refine W (gY K_ U (kD (aHb b (if (s + 1) % 64 = 60 then 0 else (s + 1) % 64) m h day sub halt carry d0 d1 d2 d3 d4 k2))) U (ZAm ?_)
 refine KL (fun q1 z1 => ?_) (fun q1 z1 => ?_)
 ·refine bZ ?_
  have e1 : (s + 1) % 64 = 60 := by simpa using q0
  have e2 : ¬ (m + 1) % 64 = 60 := by simpa using q1
  exact EN aJ ⟨U, by unfold secCk dayCk; simp only [e1, e2, ne_eq, not_true_eq_false, not_false_eq_true, if_true, if_false]; rfl⟩
 refine ZA7 ?_
 refine W (gY K_ U (kD (aKf b (if (s + 1) % 64 = 60 then 0 else (s + 1) % 64) (if (m + 1) % 64 = 60 then 0 else (m + 1) % 64) h day sub halt carry d0 d1 d2 d3 d4 k3))) U (ZA7 ?_)
 refine KC (fun q2 z2 => ?_) (fun q2 z2 => ?_)
 ·refine ZBE ?_
  have e1 : (s + 1) % 64 = 60 := by simpa using q0
  have e2 : (m + 1) % 64 = 60 := by simpa using q1
  have e3 : ¬ (h + 1) % 32 = 24 := by simpa using q2
  exact EN aJ ⟨U, by unfold secCk dayCk; simp only [e1, e2, e3, ne_eq, not_true_eq_false, not_false_eq_true, if_true, if_false]; rfl⟩
 refine ZDG ?_
 refine hY ?_
 refine ZAm ?_
 refine ZEq ?_
 refine bZ ?_
 refine KC (fun q3 z3 => ?_) (fun q3 z3 => ?_)
 ·refine ZBn ?_
  refine pT ?_
  refine ZEq ?_
  refine ZBE ?_
  have e1 : (s + 1) % 64 = 60 := by simpa using q0
  have e2 : (m + 1) % 64 = 60 := by simpa using q1
  have e3 : (h + 1) % 32 = 24 := by simpa using q2
  have e4 := z3
  exact EN aJ ⟨U, R8⟩
 refine ZBE ?_
 have e1 : (s + 1) % 64 = 60 := by simpa using q0
 have e2 : (m + 1) % 64 = 60 := by simpa using q1
 have e3 : (h + 1) % 32 = 24 := by simpa using q2
 have e4 := z3
 exact EN aJ ⟨U, R8⟩
def tickCk_fn (c : Ck) (hc : c.Ok) (w : AI) : aG prog 392 [.agg (nJ c).toArray, .int .i64 1] w [] (V_ (.agg (nJ (tickCk c)).toArray)) := by
 obtain ⟨s, m, h, day, sub, halt, carry, d0, d1, d2, d3, d4⟩ := c
 obtain ⟨⟨k1, k2, k3, k4, k5⟩, k6⟩ := hc
 dsimp only at k1 k2 k3 k4 k6
 have hf9 : (⟨s, m, h, day, sub + 1, halt, carry, d0, d1, d2, d3, d4⟩ : Ck).Fo := ⟨k1, k2, k3, k4, k5⟩
 have hsub9 : ∀ k : Nat, (qM (⟨s, m, h, day, sub + 1, halt, carry, d0, d1, d2, d3, d4⟩ : Ck) k).sub = sub + 1 - 1048576 * k := fun k => B0 _ k
 refine aT func392 ?_
 refine ZAm ?_
 refine Ov fun b0 => ?_
 refine lE fun b1 => ?_
 refine aI ?_
 refine KL (fun q0 z0 => ?_) (fun q0 z0 => ?_)
 ·refine ZDG ?_
  refine W (bX U U U Uf) U (pT ?_)
  obtain rfl := q0
  exact aZ (fun w hw => eW U U U (aH (b := b1) aE w hw)) ⟨U, by unfold tickCk; rw [ag rfl]; rfl⟩
 refine ZAm ?_
 refine jM ?_
 refine bA ?_
 refine RY (vD U U) U (hY ?_)
 refine kL ?_
 refine dV (σ := Nat) [18, 19, 20, 21, 22, 23, 24, 25] (fun _ => []) (fun k => [(b1, J [.int .u8 0, .int .u8 0, .int .u8 0, .int .i64 0, .int .i64 0, .bool false, .bool false, .int .u8 0, .int .u8 0, .int .u8 0, .int .u8 0, .int .u8 0] 113), (b0, J (nJ (qM (⟨s, m, h, day, sub + 1, halt, carry, d0, d1, d2, d3, d4⟩ : Ck) k)) 113)]) (fun k => 1048576 * (k : Int) ≤ sub + 1) (fun k => ((sub + 1) / 1048576).toNat - k) 0 ?_ ?_ ?_ ?_
 ·show (1048576 : Int) * (0 : Nat) ≤ sub + 1; omega
 ·exact .nil
 ·exact fun _ h => h
 rintro k y4 hk
 dsimp only at hk ⊢
 have hs9 := hsub9 k
 refine ZBy ?_
 refine W (aX U U (bN (v := .int .i64 (qM (⟨s, m, h, day, sub + 1, halt, carry, d0, d1, d2, d3, d4⟩ : Ck) k).sub) aE U)) U (ZAm ?_)
 refine KC (fun q1 z1 => ?_) (fun q1 z1 => ?_)
 ·refine aI ?_
  refine nT ?_
  refine ZBE ?_
  refine pT ?_
  refine RX (cX (F := [(b1, _)]) (A := [(b0, _)]) K_ U (dJ (aG3 b0 { qM (⟨s, m, h, day, sub + 1, halt, carry, d0, d1, d2, d3, d4⟩ : Ck) k with sub := (qM (⟨s, m, h, day, sub + 1, halt, carry, d0, d1, d2, d3, d4⟩ : Ck) k).sub - 1048576 } ((hf9.secs k).sub_ _)))) U (ZBQ ?_)
  refine ZBE ?_
  exact ⟨k + 1, aR, aR, .nil, bJ, fun _ h => h.as (by rw [aHO]; rfl)⟩
 refine ZA7 ?_
 refine W (bX U U U Uf) U (pT ?_)
 obtain rfl := q0
 exact aZ (fun w hw => eW U U U (aH (b := b1) aE w hw)) ⟨U, by unfold tickCk; rw [ae Bool.false_ne_true]; dsimp only; rw [show ((sub + 1) / 1048576).toNat = k by omega]; rfl⟩
def aFe (n : Int) (x : Bool) (hn : n = 6 ∨ n = 7) (w : AI) : aG prog 413 [.int .i64 n, .bool x] w [] (V_ (.int .u8 (lY x (if n = 6 then 64 else 128)))) := by
 refine aT func413 ?_
 refine bZ ?_
 refine KC (fun q0 z0 => ?_) (fun q0 z0 => ?_)
 ·refine ZBE ?_
  rcases hn with rfl | rfl
  ·refine ZAm ?_
   refine RY (iM U U I) U (ZA7 ?_)
   exact E0 U ⟨U, (by unfold lY; rw [ag q0]; rfl)⟩
  refine ZAm ?_
  refine RY (iM U U I) U (ZA7 ?_)
  exact E0 U ⟨U, (by unfold lY; rw [ag q0]; rfl)⟩
 refine aI ?_
 exact E0 U ⟨U, (by unfold lY; rw [ae (by rw [q0]; decide)])⟩
def aQs (c : Ck) (hc : c.Ok) (w : AI) : aG prog 403 [.agg (nJ c).toArray] w [] (V_ (.agg (nJ (Ch c)).toArray)) := by
 obtain ⟨s, m, h, day, sub, halt, carry, d0, d1, d2, d3, d4⟩ := c
 obtain ⟨⟨k1, k2, k3, k4, k5⟩, k6⟩ := hc
 dsimp only at k1 k2 k3 k4 k6
 refine aT func403 ?_
 refine ZAm ?_
 refine Ov fun b0 => ?_
 refine lE fun b1 => ?_
 refine ZAm ?_
 refine DR [2, 3, 4, 5, 6, 7, 8, 9, 10, 11, 12, 13, 14, 15, 16, 17, 18, 19, 20, 21] (bW [0, 2, 4, 6, 8, 10, 12, 14, 16, 18, 20, 22, 24, 26, 28, 30, 36, 38, 33, 34, 41, 42, 44, 46, 49]) ?_
 refine bA ?_
 refine vW ?_
 refine ZAm ?_
 refine Ph ?_
 refine DW U (cM U U) U Fk (ZBy ?_)
 refine DZ U (dG K_ U (aS (aFe 6 halt M))) U jB (DY U (dM U U) U (DZ U (dG K_ U (aS (aFe 7 carry M))) U jB (DW (v := (.int .u8 (day / 256 % 2 + lY halt 64 + lY carry 128))) U (dM U U) U (aD Z ((aD (fun z => bL .u8 (bL .u8 z (lY halt 64)) (lY carry 128)) (show day / 256 % 256 % 2 = day / 256 % 2 by omega)).trans (aHG I halt carry))) ?_)))
 refine DY U (Ex (l := [.int .u8 s, .int .u8 m, .int .u8 h, .int .u8 (day % 256), .int .u8 (day / 256 % 2 + lY halt 64 + lY carry 128)]) (z := [.int .u8 0, .int .u8 0, .int .u8 0, .int .u8 0, .int .u8 0]) (ps := [(0, .int .u8 s), (1, .int .u8 m), (2, .int .u8 h), (3, .int .u8 (day % 256)), (4, .int .u8 (day / 256 % 2 + lY halt 64 + lY carry 128))]) U U U U) U (ZBE ?_)
 refine DZ U iB U aW (ZA7 ?_)
 exact W (bX U U U Uf) U Px
def aMm (c : Ck) (hc : c.Ok) (n : Int) (w : AI) : aG prog 158 [.agg (nJ c).toArray, .int .i64 n] w [] (V_ (.int .u8 (Ce n c))) := by
 obtain ⟨s, m, h, day, sub, halt, carry, d0, d1, d2, d3, d4⟩ := c
 obtain ⟨⟨k1, k2, k3, k4, k5⟩, k6⟩ := hc
 dsimp only at k1 k2 k3 k4 k6
 refine aT func158 ?_
 refine ZAm ?_
 refine Ov fun b0 => ?_
 refine ZDG ?_
 refine KL (fun q0 z0 => ?_) (fun q0 z0 => ?_)
 ·refine cL ?_
  exact E0 U ⟨U, (by unfold Ce; rw [ag I])⟩
 refine ZBy ?_
 refine KC (fun q1 z1 => ?_) (fun q1 z1 => ?_)
 ·refine ZBn ?_
  exact E0 U ⟨U, (by unfold Ce; rw [ag I])⟩
 refine ZAm ?_
 rcases (show n = 0 ∨ n = 1 ∨ n = 2 ∨ n = 3 ∨ n = 4 by omega) with rfl | rfl | rfl | rfl | rfl
 ·refine ZA7 ?_
  exact RY (eG 0 U U U U M) U pI
 ·refine ZA7 ?_
  exact RY (eG 1 U U U U M) U pI
 ·refine ZA7 ?_
  exact RY (eG 2 U U U U M) U pI
 ·refine ZA7 ?_
  exact RY (eG 3 U U U U M) U pI
 refine ZA7 ?_
 exact RY (eG 4 U U U U M) U pI
def aPK (c : Ck) (hc : c.Ok) (n x : Int) (hx : 0 ≤ x ∧ x < 256) (w : AI) : aG prog 352 [.agg (nJ c).toArray, .int .i64 n, .int .u8 x] w [] (V_ (.agg (nJ (writeCk n x c)).toArray)) := by
 obtain ⟨s, m, h, day, sub, halt, carry, d0, d1, d2, d3, d4⟩ := c
 obtain ⟨⟨k1, k2, k3, k4, k5⟩, k6⟩ := hc
 dsimp only at k1 k2 k3 k4 k6
 refine aT func352 ?_
 refine ZAm ?_
 refine Ov fun b0 => ?_
 refine lE fun b1 => ?_
 refine fJ ?_
 refine KC (fun q0 z0 => ?_) (fun q0 z0 => ?_)
 ·refine ZAm ?_
  refine RW (cM U U) U aEI (kS ?_)
  refine kL ?_
  exact Fj
 refine ZBn ?_
 refine KC (fun q1 z1 => ?_) (fun q1 z1 => ?_)
 ·refine ZAm ?_
  refine RW (cM U U) U aEI (kL ?_)
  exact Fj
 refine ZBn ?_
 refine KC (fun q2 z2 => ?_) (fun q2 z2 => ?_)
 ·refine ZAm ?_
  refine RW (cM U U) U aFu (kL ?_)
  exact Fj
 refine ZBn ?_
 refine KC (fun q3 z3 => ?_) (fun q3 z3 => ?_)
 ·refine ZA7 ?_
  refine RW (v := (.int .i64 (day / 256 * 256))) (zI U U) U (aD (Value.int .i64) (W7 (n := day) I I)) (nD ?_)
  refine RW (v := (.int .i64 (day / 256 * 256 + x))) (dM U U) U (aD (Value.int .i64) (Xq (A := day / 256 * 256) I I I hx)) (kL ?_)
  exact Fj
 refine ZBn ?_
 refine KC (fun q4 z4 => ?_) (fun q4 z4 => ?_)
 ·refine ZBy ?_
  refine RW (v := (.int .i64 (day % 256))) (cM U U) U (aD (Value.int .i64) (aBH day)) (ZBE ?_)
  refine RW (cM U U) U Fk (fB ?_)
  refine RW (iM U U M) U Ld (RW (v := (.int .i64 (day % 256 + x % 2 * 256))) (dM U U) U (aD (Value.int .i64) (Ub (A := x % 2 * 256) I I I I)) (kL ?_))
  refine RW (cM U U) U A6 (RW (v := (.bool (decide (x / 64 % 2 = 1)))) U U (aD Value.bool Wv) (ZBE ?_))
  refine Dm ?_
  refine RW (v := (.bool (decide (x / 128 = 1)))) U U (aD Value.bool Wv) (kS ?_)
  refine kL ?_
  exact Fj
 refine ZA7 ?_
 exact Fj
def Np (b : Nat) (B : Bd) (hB : B.Ln) (w : AI) (hr : aK w b 0 (cBd B)) : aG prog 369 [P_ b] w [] (V_ (.int .i64 (everyB B))) := by
 have q0 := hB.r_ 0
 refine aT func369 ?_
 refine bZ ?_
 refine K6 ?_
 refine RW (iV U U M) U (qC 16 M M) (RW (cM U U) U xV (fB ?_))
 exact fN
def Ec (b : Nat) (B : Bd) (hB : B.Ln) (w : AI) (hr : aK w b 0 (cBd B)) : aG prog 370 [P_ b] w [] (V_ (.int .i64 (byB B))) := by
 have q0 := hB.r_ 0
 refine aT func370 ?_
 refine bZ ?_
 refine K6 ?_
 refine RW (cM U U) U xV (fB ?_)
 exact fN
def readyB_fn (b : Nat) (B : Bd) (hB : B.Ln) (w : AI) (hr : aK w b 0 (cBd B)) (n : Nat) (hn : n < 4) : aG prog 367 [P_ b, .int .i64 n] w [] (V_ (.bool (readyB n B))) := by
 have q0 := hB.r_ (5 * n)
 have q1 := hB.r_ (5 * n + 2)
 refine aT func367 ?_
 refine cL ?_
 refine KC (fun q0 z0 => ?_) (fun q0 z0 => ?_)
 ·refine ZBy ?_
  refine rU ?_
  refine ZAm ?_
  refine RY (eG (5 * n) U U U I I) U (W (aX U U (cB (hr _ _ (cBd_r hB (j := 5 * n) I)) aL)) U (Dm ?_))
  refine ZBy ?_
  obtain rfl : n = 2 := by omega
  have q2 : B.r (5 * 2) = B.r 10 := rfl
  exact E0 U ⟨U, (aD Value.bool (by unfold readyB; rw [ag I, fo]; simp only [cr, al, ne_eq]; omega))⟩
 refine ZBn ?_
 refine rU ?_
 refine hY ?_
 refine ZAm ?_
 refine RY (eG (5 * n + 2) U U U I I) U (W (aX U U (cB (hr _ _ (cBd_r hB (j := 5 * n + 2) I)) aL)) U (RW (v := (.int .u8 (B.r (5 * n + 2) / 8 * 8))) (cM U U) U (aD Z (aLf q1)) (ZBy ?_)))
 exact E0 U ⟨U, (aD Value.bool (by unfold readyB; rw [ae I, fo]; simp only [cr, al, ne_eq]; omega))⟩
def aEw (b : Nat) (B : Bd) (hB : B.Wf) (w : AI) (hr : aK w b 0 (cBd B)) : aG prog 372 [P_ b] w [] (V_ (.int .i64 (kJ B))) := by
 have q0 := hB.r_ 0
 have q1 := hB.pitch
 have q2 := A2 B
 have q3 := aBD q1.1 (byB B).toNat
 refine aT func372 ?_
 refine ZBn ?_
 refine DR [4, 5] (bW [0, 2, 4, 6, 8, 11, 12, 14]) ?_
 refine ZA7 ?_
 refine DL U U U (gD (hr _ _ (Kc hB)) aL) U (ZBE ?_)
 refine DZ U (dG K_ U (fun w hw => Ec b B hB w (cG hr aL w hw))) U jB (DW (v := (.int .i64 (B.pitch / 2 ^ (byB B).toNat))) U (iV U U q2.1) U (aD (Value.int .i64) (aOV q2 q1.1)) (bA ?_))
 refine K6 ?_
 refine RW (cM U U) U Y3 (ZAm ?_)
 refine KC (fun q1 z1 => ?_) (fun q1 z1 => ?_)
 ·refine ZAm ?_
  refine RW (v := (.int .i64 (0 - (B.pitch / 2 ^ (byB B).toNat)))) U U (aD (Value.int .i64) (bY (n := 0 - (B.pitch / 2 ^ (byB B).toNat)) I I)) (ZDG ?_)
  refine W (aX U U (cB (hr _ _ (Kc hB)) aL)) U (ZBE ?_)
  refine hY ?_
  refine ZA7 ?_
  exact E0 U ⟨U, (aD (Value.int .i64) (by unfold kJ; rw [ag I]; first | done | omega))⟩
 refine aI ?_
 refine W (aX U U (cB (hr _ _ (Kc hB)) aL)) U (ZBE ?_)
 refine hY ?_
 refine ZA7 ?_
 exact E0 U ⟨U, (aD (Value.int .i64) (by unfold kJ; rw [ae I]; first | done | omega))⟩
def Kn (n : Nat) (w : AI) : aG prog 365 [.int .i64 n] w [] (V_ (.int .i64 (longest n))) := by
 refine aT func365 ?_
 refine cL ?_
 refine KC (fun q0 z0 => ?_) (fun q0 z0 => ?_)
 ·refine ZBn ?_
  exact E0 U ⟨U, (by unfold longest; rw [ag I])⟩
 refine aI ?_
 exact E0 U ⟨U, (by unfold longest; rw [ae I])⟩
def Xd (b : Nat) (B : Bd) (hB : B.Ln) (w : AI) (hst : St w [b] [(b, J (cBd B) 127)] w) : aG prog 368 [P_ b] w [b] (fun v H => v = .tuple #[] ∧ H = [(b, J (cBd (eA B)) 127)]) := by
 have q0 := Dv B
 have hW : ({ B with slide := everyB B } : Bd).Ln := hB.slide_ _
 refine cE func368 hst ?_
 refine ZBy ?_
 refine aP K_ (fun w hw => Np b B hB w (aH aE w hw)) ?_
 refine ZAm ?_
 refine W (bF (l' := cBd ({ B with slide := everyB B })) 0 U U U U U U yV (Wu hB _)) U (rQ ?_)
 refine W (aX U U (bN aE (by exact Uz hW))) U (ZAm ?_)
 refine KC (fun q1 z1 => ?_) (fun q1 z1 => ?_)
 ·refine ZBy ?_
  refine W (bF (l' := cBd ({ B with slide := 8 })) 0 U U U U U U (by rw [cBd_len hW]; simp only [eF, ax]; omega) (Wu hW _)) U (dE ?_)
  refine ZBE ?_
  exact EN aJ ⟨U, by unfold eA; rw [ag z1]⟩
 refine ZBE ?_
 exact EN aJ ⟨U, by unfold eA; rw [ae z1]⟩
def Rm (b : Nat) (B : Bd) (hB : B.Wf) (w : AI) (hst : St w [b] [(b, J (cBd B) 127)] w) : aG prog 371 [P_ b] w [b] (fun v H => v = .bool (uE B) ∧ H = [(b, J (cBd (sX B)) 127)]) := by
 refine cE func371 hst ?_
 refine ZDG ?_
 refine aP K_ (fun w hw => aEw b B hB w (aH aE w hw)) ?_
 refine bA ?_
 refine KC (fun q0 z0 => ?_) (fun q0 z0 => ?_)
 ·refine ZBy ?_
  refine RY zA U (ZBE ?_)
  refine W (bF (l' := cBd (Pe B)) 0 U U U U U U yV (putBd_v hB (n := 0) (k := 0) M M U)) U (dE ?_)
  refine ZDG ?_
  have q1 : uE B = true := q0
  exact EV U aJ ⟨by rw [q1]; exact aD Value.bool q0, by unfold sX; rw [q1]; rfl⟩
 refine ZDG ?_
 have q1 : uE B = false := q0
 exact EV U aJ ⟨by rw [q1]; exact aD Value.bool q0, by unfold sX; rw [q1]; rfl⟩
set_option maxHeartbeats 2000000 in
def aMc (b : Nat) (B : Bd) (hB : B.Wf) (w : AI) (hst : St w [b] [(b, J (cBd B) 127)] w) : aG prog 376 [P_ b] w [b] (fun v H => v = .tuple #[] ∧ H = [(b, J (cBd (Re B)) 127)]) := by
 refine cE func376 hst ?_
 refine ZBn ?_
 refine dV (σ := Nat) [2, 3, 4, 5, 6, 7, 8, 9, 10, 11, 12, 13, 14, 15, 16, 17, 18, 19, 20, 21, 22, 23, 24, 25, 26, 27, 28, 29, 30, 31, 32, 33, 34, 35, 36, 37, 38, 39, 40, 41, 42, 43, 44, 45, 46, 47, 48, 49, 50] (fun n => [(4, .int .i64 n)]) (fun n => [(b, J (cBd (turnV lenV B n)) 127)]) (fun n => n ≤ 4) (fun n => 4 - n) 0 ?_ ?_ ?_ ?_
 ·exact av _
 ·exact .cons U .nil
 ·exact fun _ h => h
 rintro n y1 hn
 refine ZBn ?_
 refine KC (fun q0 z0 => ?_) (fun q0 z0 => ?_)
 ·refine bZ ?_
  have hX9 := hB.turn aDL n
  have hr9 := hX9.r_ (5 * n + 4)
  have hv9 := hX9.v_ n
  have hv1 := hv9.len
  have hv2 := hv9.lev
  have hv3 := hv9.wait
  refine ZBn ?_
  refine RY (iP (s := 4) n U U U I I) U (ZDG ?_)
  refine rU ?_
  refine hY ?_
  refine ZAm ?_
  refine RY (eG (5 * n + 4) U U U I I) U (W (aX U U (bN aE (by rw [cg]; exact cBd_r hX9 (j := 5 * n + 4) I))) U (RW (cM U U) U A6 (ZBE ?_)))
  refine KL (fun q1 z1 => ?_) (fun q1 z1 => ?_)
  ·refine cL ?_
   refine xM ?_
   exact ⟨n + 1, aR, aR, .cons U .nil, bJ, fun _ h => h.as aEO⟩
  refine ZA7 ?_
  refine W (aX U U (bN aE (vR hX9 (k := 1) I U))) U (ZA7 ?_)
  refine KC (fun q2 z2 => ?_) (fun q2 z2 => ?_)
  ·refine ZAm ?_
   refine xM ?_
   exact ⟨n + 1, aR, aR, .cons U .nil, bJ, fun _ h => h.as aEO⟩
  refine ZAm ?_
  have hX1 : ((turnV lenV B n).setV n { (turnV lenV B n).v n with len := ((turnV lenV B n).v n).len - 1 }).Wf := hX9.setV n ⟨sV, hv2, hv3⟩
  refine ZBy ?_
  refine W (aX U U (bN aE (vR hX9 (k := 1) I U))) U (nT ?_)
  refine ZAm ?_
  refine W (bF (l' := cBd ((turnV lenV B n).setV n { (turnV lenV B n).v n with len := ((turnV lenV B n).v n).len - 1 })) 0 U U U U U U aFw (putBd_v hX9 (k := 1) I M U)) U (rQ ?_)
  refine W (aX U U (bN (v := .bool ((turnV lenV B n).v n).on) aE (vR hX1 (k := 0) I wT))) U (KL (fun q3 z3 => ?_) (fun q3 z3 => ?_))
  ·refine ZA7 ?_
   refine W (aX U U (bN (v := .int .i64 (((turnV lenV B n).v n).len - 1)) aE (vR hX1 (k := 1) I wT))) U (ZBy ?_)
   refine W (bF (l' := cBd ((turnV lenV B n).setV n { (turnV lenV B n).v n with len := ((turnV lenV B n).v n).len - 1, on := decide (0 < ((turnV lenV B n).v n).len - 1) })) 0 U U U U U U L7 ((putBd_v hX1 (k := 0) (y := { (turnV lenV B n).v n with len := ((turnV lenV B n).v n).len - 1, on := decide (0 < ((turnV lenV B n).v n).len - 1) }) I M wT).trans Ah)) U (iI ?_)
   refine xM ?_
   exact ⟨n + 1, aR, aR, .cons U .nil, bJ, fun _ h => h.as (by show _ = [(b, J (cBd ((turnV lenV B n).setV n (lenV (turnV lenV B n) n ((turnV lenV B n).v n)))) 127)]; rw [show lenV (turnV lenV B n) n ((turnV lenV B n).v n) = _ from ae I, show ((turnV lenV B n).v n).on = true from q3]; rfl)⟩
  refine bA ?_
  refine W (bF (l' := cBd ((turnV lenV B n).setV n { (turnV lenV B n).v n with len := ((turnV lenV B n).v n).len - 1, on := false })) 0 U U U U U U L7 ((putBd_v hX1 (k := 0) (y := { (turnV lenV B n).v n with len := ((turnV lenV B n).v n).len - 1, on := false }) I M wT).trans Ah)) U (iI ?_)
  refine xM ?_
  exact ⟨n + 1, aR, aR, .cons U .nil, bJ, fun _ h => h.as (by show _ = [(b, J (cBd ((turnV lenV B n).setV n (lenV (turnV lenV B n) n ((turnV lenV B n).v n)))) 127)]; rw [show lenV (turnV lenV B n) n ((turnV lenV B n).v n) = _ from ae I, show ((turnV lenV B n).v n).on = false from q3]; rfl)⟩
 refine ZBE ?_
 obtain rfl : n = 4 := by omega
 exact EN aJ ⟨U, U⟩
set_option maxHeartbeats 2000000 in
def O9 (b : Nat) (B : Bd) (hB : B.Wf) (w : AI) (hst : St w [b] [(b, J (cBd B) 127)] w) : aG prog 398 [P_ b] w [b] (fun v H => v = .tuple #[] ∧ H = [(b, J (cBd (Bt B)) 127)]) := by
 refine cE func398 hst ?_
 refine ZBn ?_
 refine dV (σ := Nat) [2, 3, 4, 5, 6, 7, 8, 9, 10, 11, 12, 13, 14, 15, 16, 17, 18, 19, 20, 21, 22, 23, 24, 25, 26, 27, 28, 29, 30, 31, 32, 33, 34, 35, 36, 37, 38, 39, 40, 41, 42, 43, 44, 45, 46, 47, 48, 49, 50, 51, 52, 53, 54, 55, 56, 57, 58, 59, 60, 61, 62, 63, 64, 65, 66, 67] (fun n => [(5, .int .i64 n)]) (fun n => [(b, J (cBd (turnV levV B n)) 127)]) (fun n => n ≤ 4) (fun n => 4 - n) 0 ?_ ?_ ?_ ?_
 ·exact av _
 ·exact .cons U .nil
 ·exact fun _ h => h
 rintro n y1 hn
 refine ZBn ?_
 refine KC (fun q0 z0 => ?_) (fun q0 z0 => ?_)
 ·refine bZ ?_
  have hX9 := hB.turn S7 n
  have hr9 := hX9.r_ (5 * n + 2)
  have hv9 := hX9.v_ n
  have hv1 := hv9.len
  have hv2 := hv9.lev
  have hv3 := hv9.wait
  refine DR [13] (bW [0, 2, 4, 6, 8, 10, 12, 14, 16, 18, 20, 22, 24, 26, 28]) ?_
  refine ZBy ?_
  refine DY U (iP (s := 4) n U U U I I) U (ZAm ?_)
  refine DW U (Cu U U) U mM (DW U (nL U U) U mM (ZAm ?_))
  refine DY U (eG (5 * n + 2) U U U I I) U (DL U U U (eN aE (by rw [cg]; exact cBd_r hX9 (j := 5 * n + 2) I)) U (bA ?_))
  refine KL (fun q1 z1 => ?_) (fun q1 z1 => ?_)
  ·refine bA ?_
   refine xM ?_
   exact ⟨n + 1, aR, aR, .cons U .nil, bJ, fun _ h => h.as S4⟩
  refine ZBE ?_
  refine RW (cM U U) U xV (ZA7 ?_)
  refine KC (fun q2 z2 => ?_) (fun q2 z2 => ?_)
  ·refine ZAm ?_
   refine xM ?_
   exact ⟨n + 1, aR, aR, .cons U .nil, bJ, fun _ h => h.as S4⟩
  refine ZDG ?_
  refine W (aX U U (bN aE (vR hX9 (k := 3) I U))) U (nT ?_)
  refine ZAm ?_
  refine W (bF (l' := cBd ((turnV levV B n).setV n { (turnV levV B n).v n with wait := ((turnV levV B n).v n).wait - 1 })) 0 U U U U U U aFw (putBd_v hX9 (k := 3) (y := { (turnV levV B n).v n with wait := ((turnV levV B n).v n).wait - 1 }) I M U)) U (iI ?_)
  have hX1 : ((turnV levV B n).setV n { (turnV levV B n).v n with wait := ((turnV levV B n).v n).wait - 1 }).Ln := hX9.ln.setV n _
  refine ZBy ?_
  refine W (aX U U (bN (v := .int .i64 (((turnV levV B n).v n).wait - 1)) aE (vR hX1 (k := 3) I wT))) U (ZAm ?_)
  refine KC (fun q3 z3 => ?_) (fun q3 z3 => ?_)
  ·refine ZAm ?_
   refine xM ?_
   exact ⟨n + 1, aR, aR, .cons U .nil, bJ, fun _ h => h.as (by show _ = [(b, J (cBd ((turnV levV B n).setV n (levV (turnV levV B n) n ((turnV levV B n).v n)))) 127)]; rw [aNS I I])⟩
  refine ZBn ?_
  refine RW (cM U U) U xV (fB ?_)
  refine ZAm ?_
  refine W (bF (l' := cBd ((turnV levV B n).setV n { (turnV levV B n).v n with wait := (turnV levV B n).r (5 * n + 2) % 8 })) 0 U U U U U U L7 ((putBd_v hX1 (k := 3) (y := { (turnV levV B n).v n with wait := (turnV levV B n).r (5 * n + 2) % 8 }) I M wT).trans Ah)) U (iI ?_)
  have hX2 : ((turnV levV B n).setV n { (turnV levV B n).v n with wait := (turnV levV B n).r (5 * n + 2) % 8 }).Ln := hX9.ln.setV n _
  refine ZAm ?_
  refine RW (cM U U) U Y3 (ZAm ?_)
  refine KC (fun q4 z4 => ?_) (fun q4 z4 => ?_)
  ·refine ZBn ?_
   refine W (aX U U (bN (v := .int .i64 ((turnV levV B n).v n).lev) aE (vR hX2 (k := 2) I wT))) U (hY ?_)
   refine RY (vD U U) U (ZAm ?_)
   refine W (bF (l' := cBd ((turnV levV B n).setV n { (turnV levV B n).v n with wait := (turnV levV B n).r (5 * n + 2) % 8, lev := min (((turnV levV B n).v n).lev + 1) 15 })) 0 U U U U U U aFk ((putBd_v hX2 (k := 2) (y := { (turnV levV B n).v n with wait := (turnV levV B n).r (5 * n + 2) % 8, lev := min (((turnV levV B n).v n).lev + 1) 15 }) I M wT).trans Ah)) U (iI ?_)
   refine xM ?_
   exact ⟨n + 1, aR, aR, .cons U .nil, bJ, fun _ h => h.as (by show _ = [(b, J (cBd ((turnV levV B n).setV n (levV (turnV levV B n) n ((turnV levV B n).v n)))) 127)]; rw [aIP I I I])⟩
  refine ZBn ?_
  refine W (aX U U (bN (v := .int .i64 ((turnV levV B n).v n).lev) aE (vR hX2 (k := 2) I wT))) U (nT ?_)
  refine RY (Cz U U) U (ZAm ?_)
  refine W (bF (l' := cBd ((turnV levV B n).setV n { (turnV levV B n).v n with wait := (turnV levV B n).r (5 * n + 2) % 8, lev := max (((turnV levV B n).v n).lev - 1) 0 })) 0 U U U U U U aFk ((putBd_v hX2 (k := 2) (y := { (turnV levV B n).v n with wait := (turnV levV B n).r (5 * n + 2) % 8, lev := max (((turnV levV B n).v n).lev - 1) 0 }) I M wT).trans Ah)) U (iI ?_)
  refine xM ?_
  exact ⟨n + 1, aR, aR, .cons U .nil, bJ, fun _ h => h.as (by show _ = [(b, J (cBd ((turnV levV B n).setV n (levV (turnV levV B n) n ((turnV levV B n).v n)))) 127)]; rw [aK2 I I I])⟩
 refine ZBE ?_
 obtain rfl : n = 4 := by omega
 exact EN aJ ⟨U, U⟩
set_option maxHeartbeats 2000000 in
def slideB_fn (b : Nat) (B : Bd) (hB : B.Wf) (w : AI) (hst : St w [b] [(b, J (cBd B) 127)] w) : aG prog 397 [P_ b] w [b] (fun v H => v = .tuple #[] ∧ H = [(b, J (cBd (slideB B)) 127)]) := by
 have k1 := hB.slide
 have hB1 : ({ B with slide := B.slide - 1 } : Bd).Ln := hB.ln.slide_ _
 have hB2 : (eA ({ B with slide := B.slide - 1 } : Bd)).Wf := aGj hB
 refine cE func397 hst ?_
 refine aI ?_
 refine W (aX U U (bN aE (by exact aLx hB))) U (ZAm ?_)
 refine KC (fun q0 z0 => ?_) (fun q0 z0 => ?_)
 ·refine ZBE ?_
  exact EN aJ ⟨U, by rw [aJ1 (by simpa using q0)]⟩
 refine aI ?_
 refine W (aX U U (bN aE (by exact Uz hB))) U (nT ?_)
 refine ZAm ?_
 refine W (bF (l' := cBd (({ B with slide := B.slide - 1 } : Bd))) 0 U U U U U U yV (Wu hB _)) U (dE ?_)
 refine ZDG ?_
 refine W (aX U U (bN aE (by exact Uz hB1))) U (ZAm ?_)
 refine KC (fun q1 z1 => ?_) (fun q1 z1 => ?_)
 ·refine ZBE ?_
  exact EN aJ ⟨U, by rw [aJ0 (show B.slides = true by simpa using q0) z1]⟩
 refine ZBy ?_
 refine W (gY K_ U (kD (Xd b ({ B with slide := B.slide - 1 } : Bd) hB1))) U (ZBn ?_)
 refine aP K_ (fun w hw => Np b (eA ({ B with slide := B.slide - 1 } : Bd)) hB2 w (aH aE w hw)) ?_
 refine ZBE ?_
 refine KL (fun q2 z2 => ?_) (fun q2 z2 => ?_)
 ·refine iG ?_
  exact EN aJ ⟨U, by rw [aPo (show B.slides = true by simpa using q0) I z2]⟩
 refine ZBE ?_
 refine W (gY K_ U (kD (Rm b (eA ({ B with slide := B.slide - 1 } : Bd)) hB2))) U (ZBE ?_)
 refine KL (fun q3 z3 => ?_) (fun q3 z3 => ?_)
 ·refine ZDG ?_
  exact EN aJ ⟨U, by rw [aIU (show B.slides = true by simpa using q0) I z2 q3]⟩
 refine ZBE ?_
 have hc9 := aPr q3
 refine cZ (H' := [(b, J (cBd (eA ({ B with slide := B.slide - 1 } : Bd))) 127)]) (fun _ h => h.as (by rw [hc9])) ?_
 refine aP K_ (fun w hw => Ec b (eA ({ B with slide := B.slide - 1 } : Bd)) hB2 w (aH aE w hw)) ?_
 refine ZA7 ?_
 refine KC (fun q4 z4 => ?_) (fun q4 z4 => ?_)
 ·refine ZBE ?_
  exact EN aJ ⟨U, by rw [aMR (show B.slides = true by simpa using q0) I z2 q3 z4]⟩
 refine ZAm ?_
 have hn9 := aEr hB2
 have hn8 : kJ (eA ({ B with slide := B.slide - 1 } : Bd)) ≤ 2047 := by have h9 := dw (show decide (2047 < kJ (eA ({ B with slide := B.slide - 1 } : Bd))) = false from q3); omega
 have hB3 : ({ (eA ({ B with slide := B.slide - 1 } : Bd)) with pitch := kJ (eA ({ B with slide := B.slide - 1 } : Bd)) } : Bd).Wf := hB2.pitch_ I
 have hB4 : (putB 3 (kJ (eA ({ B with slide := B.slide - 1 } : Bd)) % 256) ({ (eA ({ B with slide := B.slide - 1 } : Bd)) with pitch := kJ (eA ({ B with slide := B.slide - 1 } : Bd)) } : Bd)).Wf := hB3.put 3 I
 have hr4 := hB2.r_ 4
 refine ZA7 ?_
 refine aP K_ (fun w hw => aEw b (eA ({ B with slide := B.slide - 1 } : Bd)) hB2 w (aH aE w hw)) ?_
 refine ZAm ?_
 refine W (bF (l' := cBd (({ (eA ({ B with slide := B.slide - 1 } : Bd)) with pitch := kJ (eA ({ B with slide := B.slide - 1 } : Bd)) } : Bd))) 0 U U U U U U (by rw [cBd_len hB2]; simp only [eF, ax]; omega) (Ww hB2 _)) U (iI ?_)
 refine DR [7, 8, 9, 10, 11, 12, 13, 14, 15, 16, 17, 18, 19, 20, 21, 22, 25, 26] (bW [0, 2, 4, 6, 8, 10, 12, 14, 16, 18, 20, 22, 24, 26, 28, 30, 32, 34, 36, 38, 40, 42, 44, 46, 50, 52, 49, 54, 57]) ?_
 refine ZBn ?_
 refine DL U U U (eN (v := .int .i64 (kJ (eA ({ B with slide := B.slide - 1 } : Bd)))) aE (Kc hB3.ln)) U (vW ?_)
 refine ZA7 ?_
 refine DY U Cm U (DL U U U (eN aE (cBd_r hB3.ln (j := 4) M)) U (DW (v := (.int .u8 ((eA ({ B with slide := B.slide - 1 } : Bd)).r 4 / 8 * 8))) U (zI U U) U (aD Z (aOW hr4)) (ZA7 ?_)))
 refine DL U U U (eN (v := .int .i64 (kJ (eA ({ B with slide := B.slide - 1 } : Bd)))) aE (Kc hB3.ln)) U (Ph ?_)
 refine DW U (cM U U) U xV (DW (v := (.int .u8 ((eA ({ B with slide := B.slide - 1 } : Bd)).r 4 / 8 * 8 + kJ (eA ({ B with slide := B.slide - 1 } : Bd)) / 256 % 8))) U (dM U U) U (aD Z (aHM (y := kJ (eA ({ B with slide := B.slide - 1 } : Bd)) / 256 % 8) hr4 I)) (ZAm ?_))
 refine DY U Eo U (ZAm ?_)
 refine DZ U (bF (l' := cBd ((putB 3 (kJ (eA ({ B with slide := B.slide - 1 } : Bd)) % 256) ({ (eA ({ B with slide := B.slide - 1 } : Bd)) with pitch := kJ (eA ({ B with slide := B.slide - 1 } : Bd)) } : Bd)))) 0 U U U U U U (by rw [cBd_len hB3]; simp only [eF, ax]; omega) (putBd_r hB3.ln (j := 3) M _)) U aW (dE ?_)
 refine DY U Cm U (DZ U (bF (l' := cBd (Iw (eA ({ B with slide := B.slide - 1 } : Bd)))) 0 U U U U U U (by rw [cBd_len hB4]; simp only [eF, ax]; omega) (putBd_r hB4.ln (j := 4) M _)) U aW (mY ?_))
 refine W (gY K_ U (kD (Rm b (Iw (eA ({ B with slide := B.slide - 1 } : Bd))) (aA5 hB2 q3)))) U (ZBE ?_)
 exact EN aJ ⟨U, by rw [aPB (show B.slides = true by simpa using q0) I z2 q3 z4]⟩
set_option maxHeartbeats 2000000 in
def beginB_fn (b : Nat) (B : Bd) (hB : B.Wf) (n : Nat) (hn : n < 4) (w : AI) (hst : St w [b] [(b, J (cBd B) 127)] w) : aG prog 366 [P_ b, .int .i64 n] w [b] (fun v H => v = .tuple #[] ∧ H = [(b, J (cBd (beginB n B)) 127)]) := by
 have hr9 := hB.r_ (5 * n + 2)
 have hv9 := (hB.v_ n).len
 have hV1 : (B.setV n { B.v n with on := readyB n B }).Ln := hB.ln.setV n _
 have hV2 : (B.setV n { B.v n with on := readyB n B, lev := B.r (5 * n + 2) / 16 }).Ln := hB.ln.setV n _
 have hV3 : (B.setV n { B.v n with on := readyB n B, lev := B.r (5 * n + 2) / 16, wait := B.r (5 * n + 2) % 8 }).Ln := hB.ln.setV n _
 refine cE func366 hst ?_
 refine ZBE ?_
 refine DR [13] (bW [0, 2, 4, 6, 8, 10, 12, 14, 16, 18, 20, 22, 24, 26, 28]) ?_
 refine ZBy ?_
 refine DY U (iP (s := 4) n U U U I I) U (ZAm ?_)
 refine DW U (Cu U U) U mM (DW U (nL U U) U mM (ZAm ?_))
 refine DY U (eG (5 * n + 2) U U U I I) U (DL U U U (eN aE (by rw [cg]; exact cBd_r hB (j := 5 * n + 2) I)) U (cL ?_))
 refine aP K_ (fun w hw => readyB_fn b B hB w (aH aE w hw) n hn) ?_
 refine ZBE ?_
 refine RW (iV U U M) U (qC 16 M M) (fB ?_)
 refine ZBE ?_
 refine RW (cM U U) U xV (fB ?_)
 refine ZAm ?_
 refine W (bF (l' := cBd (B.setV n { B.v n with on := readyB n B })) 0 U U U U U U yV ((putBd_v hB (k := 0) (y := { B.v n with on := readyB n B }) hn M tV).trans tV)) U (iI ?_)
 refine W (bF (l' := cBd (B.setV n { B.v n with on := readyB n B, lev := B.r (5 * n + 2) / 16 })) 0 U U U U U U (by rw [cBd_len hV1]; simp only [eF, ax]; omega) ((putBd_v hV1 (k := 2) (y := { B.v n with on := readyB n B, lev := B.r (5 * n + 2) / 16 }) hn M Se).trans Ah)) U (iI ?_)
 refine W (bF (l' := cBd (B.setV n { B.v n with on := readyB n B, lev := B.r (5 * n + 2) / 16, wait := B.r (5 * n + 2) % 8 })) 0 U U U U U U (by rw [cBd_len hV2]; simp only [eF, ax]; omega) ((putBd_v hV2 (k := 3) (y := { B.v n with on := readyB n B, lev := B.r (5 * n + 2) / 16, wait := B.r (5 * n + 2) % 8 }) hn M Se).trans Ah)) U (dE ?_)
 refine ZDG ?_
 refine W (aX U U (bN (v := .int .i64 (B.v n).len) aE (vR hV3 (k := 1) hn Se))) U (ZAm ?_)
 refine KC (fun q0 z0 => ?_) (fun q0 z0 => ?_)
 ·refine ZA7 ?_
  refine aP K_ (aS (Kn n)) ?_
  refine ZAm ?_
  refine W (bF (l' := cBd (B.setV n { B.v n with on := readyB n B, lev := B.r (5 * n + 2) / 16, wait := B.r (5 * n + 2) % 8, len := longest n })) 0 U U U U U U (by rw [cBd_len hV3]; simp only [eF, ax]; omega) ((putBd_v hV3 (k := 1) (y := { B.v n with on := readyB n B, lev := B.r (5 * n + 2) / 16, wait := B.r (5 * n + 2) % 8, len := longest n }) hn M Se).trans Ah)) U (mY ?_)
  have hc9 : cH B n = { B.v n with on := readyB n B, lev := B.r (5 * n + 2) / 16, wait := B.r (5 * n + 2) % 8, len := longest n } := by unfold cH; rw [ag I]
  rw [← hc9]
  have hC9 := hB.setV n (M1 hB n)
  rcases d9 n with rfl | hn0
  ·refine ZAm ?_
   refine gO false U U U M ?_
   refine ZBy ?_
   have hP9 : ({ (B.setV 0 (cH B 0)) with pitch := (B.setV 0 (cH B 0)).r 3 + (B.setV 0 (cH B 0)).r 4 % 8 * 256 } : Bd).Wf := hC9.pitch_ (by have := hC9.r_ 3; omega)
   have hr3 := hC9.r_ 3
   have hr4 := hC9.r_ 4
   have hW9 : (eA ({ (B.setV 0 (cH B 0)) with pitch := (B.setV 0 (cH B 0)).r 3 + (B.setV 0 (cH B 0)).r 4 % 8 * 256 } : Bd)).Wf := hP9.waitW
   have hS9 : (uW (eA ({ (B.setV 0 (cH B 0)) with pitch := (B.setV 0 (cH B 0)).r 3 + (B.setV 0 (cH B 0)).r 4 % 8 * 256 } : Bd))).Wf := hW9.slidesW
   refine DR [7, 8, 9, 10, 11, 12, 13, 14] (bW [0, 2, 4, 6, 8, 10, 12, 14, 16, 18, 20, 22, 24, 26, 28, 30, 32, 34, 37]) ?_
   refine ZBy ?_
   refine DY U Eo U (DL U U U (eN aE (cBd_r hC9 (j := 3) M)) U (DW U (gN U U U) U mM (ZA7 ?_)))
   refine DY U Cm U (DL U U U (eN aE (cBd_r hC9 (j := 4) M)) U (DW U (cM U U) U xV (DW U (gN U U U) U mM ?_)))
   refine DW U (iM U U M) U Ld (DW (v := (.int .i64 ((B.setV 0 (cH B 0)).r 3 + (B.setV 0 (cH B 0)).r 4 % 8 * 256))) U (dM U U) U (aD (Value.int .i64) (Ub (A := (B.setV 0 (cH B 0)).r 4 % 8 * 256) I I I hr3)) (ZAm ?_))
   refine DZ U (bF (l' := cBd (({ (B.setV 0 (cH B 0)) with pitch := (B.setV 0 (cH B 0)).r 3 + (B.setV 0 (cH B 0)).r 4 % 8 * 256 } : Bd))) 0 U U U U U U aCH (Ww hC9 _)) U aW (dE ?_)
   refine ZBy ?_
   refine W (gY K_ U (kD (Xd b ({ (B.setV 0 (cH B 0)) with pitch := (B.setV 0 (cH B 0)).r 3 + (B.setV 0 (cH B 0)).r 4 % 8 * 256 } : Bd) hP9))) U (ZBn ?_)
   refine aP K_ (fun w hw => Np b (eA ({ (B.setV 0 (cH B 0)) with pitch := (B.setV 0 (cH B 0)).r 3 + (B.setV 0 (cH B 0)).r 4 % 8 * 256 } : Bd)) hW9 w (aH aE w hw)) ?_
   refine ZBE ?_
   refine aP K_ (fun w hw => Ec b (eA ({ (B.setV 0 (cH B 0)) with pitch := (B.setV 0 (cH B 0)).r 3 + (B.setV 0 (cH B 0)).r 4 % 8 * 256 } : Bd)) hW9 w (aH aE w hw)) ?_
   refine RY (dM U U) U (RW (v := (.bool (decide (everyB (eA ({ (B.setV 0 (cH B 0)) with pitch := (B.setV 0 (cH B 0)).r 3 + (B.setV 0 (cH B 0)).r 4 % 8 * 256 } : Bd)) ≠ 0 ∨ byB (eA ({ (B.setV 0 (cH B 0)) with pitch := (B.setV 0 (cH B 0)).r 3 + (B.setV 0 (cH B 0)).r 4 % 8 * 256 } : Bd)) ≠ 0)))) U U (aD Value.bool (aDm (Dv _) (A2 _))) (ZAm ?_))
   refine W (bF (l' := cBd ((uW (eA ({ (B.setV 0 (cH B 0)) with pitch := (B.setV 0 (cH B 0)).r 3 + (B.setV 0 (cH B 0)).r 4 % 8 * 256 } : Bd))))) 0 U U U U U U Y1 (aAa hW9 _)) U (dE ?_)
   refine ZBy ?_
   refine aP K_ (fun w hw => Ec b (uW (eA ({ (B.setV 0 (cH B 0)) with pitch := (B.setV 0 (cH B 0)).r 3 + (B.setV 0 (cH B 0)).r 4 % 8 * 256 } : Bd))) hS9 w (aH aE w hw)) ?_
   refine ZAm ?_
   refine KC (fun q1 z1 => ?_) (fun q1 z1 => ?_)
   ·refine ZAm ?_
    refine W (gY K_ U (kD (Rm b (uW (eA ({ (B.setV 0 (cH B 0)) with pitch := (B.setV 0 (cH B 0)).r 3 + (B.setV 0 (cH B 0)).r 4 % 8 * 256 } : Bd))) hS9))) U (ZBE ?_)
    exact EN aJ ⟨U, V5⟩
   refine ZBE ?_
   exact EN aJ ⟨U, aDA⟩
  refine ZAm ?_
  refine uQ ?_
  refine ZA7 ?_
  exact EN aJ ⟨U, by unfold beginB; dsimp only; rw [ag hn0]⟩
 refine ZA7 ?_
 have hc9 : cH B n = { B.v n with on := readyB n B, lev := B.r (5 * n + 2) / 16, wait := B.r (5 * n + 2) % 8 } := by unfold cH; rw [ae I]
 rw [← hc9]
 have hC9 := hB.setV n (M1 hB n)
 rcases d9 n with rfl | hn0
 ·refine ZAm ?_
  refine gO false U U U M ?_
  refine ZBy ?_
  have hP9 : ({ (B.setV 0 (cH B 0)) with pitch := (B.setV 0 (cH B 0)).r 3 + (B.setV 0 (cH B 0)).r 4 % 8 * 256 } : Bd).Wf := hC9.pitch_ (by have := hC9.r_ 3; omega)
  have hr3 := hC9.r_ 3
  have hr4 := hC9.r_ 4
  have hW9 : (eA ({ (B.setV 0 (cH B 0)) with pitch := (B.setV 0 (cH B 0)).r 3 + (B.setV 0 (cH B 0)).r 4 % 8 * 256 } : Bd)).Wf := hP9.waitW
  have hS9 : (uW (eA ({ (B.setV 0 (cH B 0)) with pitch := (B.setV 0 (cH B 0)).r 3 + (B.setV 0 (cH B 0)).r 4 % 8 * 256 } : Bd))).Wf := hW9.slidesW
  refine DR [7, 8, 9, 10, 11, 12, 13, 14] (bW [0, 2, 4, 6, 8, 10, 12, 14, 16, 18, 20, 22, 24, 26, 28, 30, 32, 34, 37]) ?_
  refine ZBy ?_
  refine DY U Eo U (DL U U U (eN aE (cBd_r hC9 (j := 3) M)) U (DW U (gN U U U) U mM (ZA7 ?_)))
  refine DY U Cm U (DL U U U (eN aE (cBd_r hC9 (j := 4) M)) U (DW U (cM U U) U xV (DW U (gN U U U) U mM ?_)))
  refine DW U (iM U U M) U Ld (DW (v := (.int .i64 ((B.setV 0 (cH B 0)).r 3 + (B.setV 0 (cH B 0)).r 4 % 8 * 256))) U (dM U U) U (aD (Value.int .i64) (Ub (A := (B.setV 0 (cH B 0)).r 4 % 8 * 256) I I I hr3)) (ZAm ?_))
  refine DZ U (bF (l' := cBd (({ (B.setV 0 (cH B 0)) with pitch := (B.setV 0 (cH B 0)).r 3 + (B.setV 0 (cH B 0)).r 4 % 8 * 256 } : Bd))) 0 U U U U U U aCH (Ww hC9 _)) U aW (dE ?_)
  refine ZBy ?_
  refine W (gY K_ U (kD (Xd b ({ (B.setV 0 (cH B 0)) with pitch := (B.setV 0 (cH B 0)).r 3 + (B.setV 0 (cH B 0)).r 4 % 8 * 256 } : Bd) hP9))) U (ZBn ?_)
  refine aP K_ (fun w hw => Np b (eA ({ (B.setV 0 (cH B 0)) with pitch := (B.setV 0 (cH B 0)).r 3 + (B.setV 0 (cH B 0)).r 4 % 8 * 256 } : Bd)) hW9 w (aH aE w hw)) ?_
  refine ZBE ?_
  refine aP K_ (fun w hw => Ec b (eA ({ (B.setV 0 (cH B 0)) with pitch := (B.setV 0 (cH B 0)).r 3 + (B.setV 0 (cH B 0)).r 4 % 8 * 256 } : Bd)) hW9 w (aH aE w hw)) ?_
  refine RY (dM U U) U (RW (v := (.bool (decide (everyB (eA ({ (B.setV 0 (cH B 0)) with pitch := (B.setV 0 (cH B 0)).r 3 + (B.setV 0 (cH B 0)).r 4 % 8 * 256 } : Bd)) ≠ 0 ∨ byB (eA ({ (B.setV 0 (cH B 0)) with pitch := (B.setV 0 (cH B 0)).r 3 + (B.setV 0 (cH B 0)).r 4 % 8 * 256 } : Bd)) ≠ 0)))) U U (aD Value.bool (aDm (Dv _) (A2 _))) (ZAm ?_))
  refine W (bF (l' := cBd ((uW (eA ({ (B.setV 0 (cH B 0)) with pitch := (B.setV 0 (cH B 0)).r 3 + (B.setV 0 (cH B 0)).r 4 % 8 * 256 } : Bd))))) 0 U U U U U U Y1 (aAa hW9 _)) U (dE ?_)
  refine ZBy ?_
  refine aP K_ (fun w hw => Ec b (uW (eA ({ (B.setV 0 (cH B 0)) with pitch := (B.setV 0 (cH B 0)).r 3 + (B.setV 0 (cH B 0)).r 4 % 8 * 256 } : Bd))) hS9 w (aH aE w hw)) ?_
  refine ZAm ?_
  refine KC (fun q1 z1 => ?_) (fun q1 z1 => ?_)
  ·refine ZAm ?_
   refine W (gY K_ U (kD (Rm b (uW (eA ({ (B.setV 0 (cH B 0)) with pitch := (B.setV 0 (cH B 0)).r 3 + (B.setV 0 (cH B 0)).r 4 % 8 * 256 } : Bd))) hS9))) U (ZBE ?_)
   exact EN aJ ⟨U, V5⟩
  refine ZBE ?_
  exact EN aJ ⟨U, aDA⟩
 refine ZAm ?_
 refine uQ ?_
 refine ZA7 ?_
 exact EN aJ ⟨U, by unfold beginB; dsimp only; rw [ag hn0]⟩
def tickB_fn (B : Bd) (hB : B.Wf) (w : AI) : aG prog 390 [.agg (cBd B).toArray] w [] (V_ (.agg (cBd (tickB B)).toArray)) := by
 have k1 := hB.div
 have k2 := hB.step
 have hD1 : ({ B with div := B.div + 1 } : Bd).Ln := ⟨hB.lR, hB.bR, hB.lV⟩
 have hD0 : ({ B with div := 0 } : Bd).Wf := hB.div_ I
 have hH : (halfB ({ B with div := 0 } : Bd)).Wf := hD0.half
 have hE : (beatB ({ B with div := 0 } : Bd)).Wf := hD0.beat
 have hFN : ({ (beatB ({ B with div := 0 } : Bd)) with step := (B.step + 1) % 8 } : Bd).Ln := ⟨hE.lR, hE.bR, hE.lV⟩
 refine aT func390 ?_
 refine Pw ?_
 refine ZBN fun b0 => ?_
 refine RX (gG (l := cBd bdZ) aO) U ?_
 rintro _ _ ⟨b1, rfl, rfl⟩
 refine ZBn ?_
 refine W (aX U U (bN (v := .bool B.on) aE (cBd_on hB))) U (ZAm ?_)
 refine KC (fun q0 z0 => ?_) (fun q0 z0 => ?_)
 ·refine ZAm ?_
  refine Qq ?_
  refine iI ?_
  exact aZ (fun w hw => eW U U Gw (aH (b := b1) (l := cBd B) aE w hw)) ⟨U, by unfold tickB; rw [ag (by simpa using q0)]⟩
 refine ZBn ?_
 refine W (aX U U (bN aE (Wx hB))) U (hY ?_)
 refine ZBE ?_
 refine W (bF (l' := cBd (({ B with div := B.div + 1 } : Bd))) 1 U U U U U U yV (Zd hB _)) U (dE ?_)
 refine ZBy ?_
 refine W (aX U U (bN (v := .int .i64 (B.div + 1)) aE (Wx (b := ({ B with div := B.div + 1 } : Bd)) hD1))) U (ZAm ?_)
 refine KC (fun q1 z1 => ?_) (fun q1 z1 => ?_)
 ·refine ZAm ?_
  refine W (bX U U (by rw [cBd_len hD1]; rfl) (aH (b := b0) (l := cBd ({ B with div := B.div + 1 } : Bd)) aE)) U (W (bF (l' := cBd ({ B with div := B.div + 1 } : Bd)) 0 U U U (by rw [cBd_len hD1]; rfl) (ones_cBd _) U (by rw [cBd_len hD1, cBd_len bdZ_wf]; decide) (putZ hD1)) U (iI ?_))
  exact aZ (fun w hw => eW U U (by rw [cBd_len hD1]; rfl) (aH (b := b1) (l := cBd ({ B with div := B.div + 1 } : Bd)) aE w hw)) ⟨U, by unfold tickB; rw [ae (by rw [show B.on = true by simpa using q0]; decide), ag I]⟩
 refine ZBy ?_
 refine W (bF (l' := cBd (({ B with div := 0 } : Bd))) 1 U U U U U U (by rw [cBd_len hD1]; simp only [eF, ax]; omega) (Zd hD1 _)) U (dE ?_)
 refine ZBn ?_
 refine W (aX U U (bN (v := .int .i64 B.step) aE (cBd_step (b := ({ B with div := 0 } : Bd)) hD0))) U (RW (cM U U) U (by first | exact qF 1 2 M rfl I (show _ < (9223372036854775808 : Int) by omega) (show _ < (9223372036854775808 : Int) by decide) | rfl) (ZAm ?_))
 refine KC (fun q2 z2 => ?_) (fun q2 z2 => ?_)
 ·refine ZBE ?_
  refine RX (cX (F := [(b1, J (cBd bdZ) 127)]) (A := [(b0, J (cBd ({ B with div := 0 } : Bd)) 127)]) (R := fun v H => v = .tuple #[] ∧ H = [(b0, J (cBd (Re ({ B with div := 0 } : Bd))) 127)]) K_ U (dJ (aMc b0 ({ B with div := 0 } : Bd) hD0))) U (jT ?_)
  refine ZA7 ?_
  have hh9 : Re ({ B with div := 0 } : Bd) = (halfB ({ B with div := 0 } : Bd)) := by unfold halfB; rw [ag (show (B.step % 2 = 0) by omega)]
  refine ZEb ?_
  refine W (aX U U (bN (v := .int .i64 B.step) aE ((cBd_step hH).trans (by rw [Hk])))) U (bA ?_)
  refine KC (fun q3 z3 => ?_) (fun q3 z3 => ?_)
  ·refine ZBE ?_
   refine pE true U q3 ?_
   refine Oo ?_
   refine jT ?_
   refine Nn fun hh8 => ?_
   refine zT ?_
   refine hY ?_
   refine qD ?_
   refine Ba ?_
   refine mY ?_
   refine zD ?_
   refine dE ?_
   exact zN
  refine ZBy ?_
  refine KC (fun q4 z4 => ?_) (fun q4 z4 => ?_)
  ·refine Oo ?_
   refine jT ?_
   refine Nn fun hh8 => ?_
   refine zT ?_
   refine hY ?_
   refine qD ?_
   refine Ba ?_
   refine mY ?_
   refine zD ?_
   refine dE ?_
   exact zN
  refine ZBn ?_
  refine KC (fun q5 z5 => ?_) (fun q5 z5 => ?_)
  ·refine ZBE ?_
   refine RX (cX (F := [(b1, J (cBd bdZ) 127)]) (A := [(b0, J (cBd (halfB ({ B with div := 0 } : Bd))) 127)]) (R := fun v H => v = .tuple #[] ∧ H = [(b0, J (cBd (Bt (halfB ({ B with div := 0 } : Bd)))) 127)]) K_ U (dJ (O9 b0 (halfB ({ B with div := 0 } : Bd)) hH))) U (jT ?_)
   refine ZAm ?_
   have hh8 : Bt (halfB ({ B with div := 0 } : Bd)) = (beatB ({ B with div := 0 } : Bd)) := by unfold beatB; rw [ae (show ¬ (B.step = 2 ∨ B.step = 6) by omega), ag (show B.step = 7 by omega)]
   refine zT ?_
   refine hY ?_
   refine qD ?_
   refine Ba ?_
   refine mY ?_
   refine zD ?_
   refine dE ?_
   exact zN
  refine ZD5 fun hh8 => ?_
  refine zT ?_
  refine hY ?_
  refine qD ?_
  refine Ba ?_
  refine mY ?_
  refine zD ?_
  refine dE ?_
  exact zN
 refine ZA7 ?_
 have hh9 : ({ B with div := 0 } : Bd) = (halfB ({ B with div := 0 } : Bd)) := by unfold halfB; rw [ae (show ¬ (B.step % 2 = 0) by omega)]
 refine ZEb ?_
 refine W (aX U U (bN (v := .int .i64 B.step) aE ((cBd_step hH).trans (by rw [Hk])))) U (bA ?_)
 refine KC (fun q3 z3 => ?_) (fun q3 z3 => ?_)
 ·refine ZBE ?_
  refine pE true U q3 ?_
  refine Oo ?_
  refine jT ?_
  refine Nn fun hh8 => ?_
  refine zT ?_
  refine hY ?_
  refine qD ?_
  refine Ba ?_
  refine mY ?_
  refine zD ?_
  refine dE ?_
  exact zN
 refine ZBy ?_
 refine KC (fun q4 z4 => ?_) (fun q4 z4 => ?_)
 ·refine Oo ?_
  refine jT ?_
  refine Nn fun hh8 => ?_
  refine zT ?_
  refine hY ?_
  refine qD ?_
  refine Ba ?_
  refine mY ?_
  refine zD ?_
  refine dE ?_
  exact zN
 refine ZBn ?_
 refine KC (fun q5 z5 => ?_) (fun q5 z5 => ?_)
 ·refine ZBE ?_
  refine RX (cX (F := [(b1, J (cBd bdZ) 127)]) (A := [(b0, J (cBd (halfB ({ B with div := 0 } : Bd))) 127)]) (R := fun v H => v = .tuple #[] ∧ H = [(b0, J (cBd (Bt (halfB ({ B with div := 0 } : Bd)))) 127)]) K_ U (dJ (O9 b0 (halfB ({ B with div := 0 } : Bd)) hH))) U (jT ?_)
  refine ZAm ?_
  have hh8 : Bt (halfB ({ B with div := 0 } : Bd)) = (beatB ({ B with div := 0 } : Bd)) := by unfold beatB; rw [ae (show ¬ (B.step = 2 ∨ B.step = 6) by omega), ag (show B.step = 7 by omega)]
  refine zT ?_
  refine hY ?_
  refine qD ?_
  refine Ba ?_
  refine mY ?_
  refine zD ?_
  refine dE ?_
  exact zN
 refine ZD5 fun hh8 => ?_
 refine zT ?_
 refine hY ?_
 refine qD ?_
 refine Ba ?_
 refine mY ?_
 refine zD ?_
 refine dE ?_
 exact zN
def aLy (B : Bd) (hB : B.Wf) (on : Bool) (w : AI) : aG prog 364 [.agg (cBd B).toArray, .bool on] w [] (V_ (.agg (cBd (if on = true then onB B else offB B)).toArray)) := by
 have hZ2 : ({ bdZ with div := B.div, step := B.step } : Bd).Ln := ⟨bdZ_wf.lR, bdZ_wf.bR, bdZ_wf.lV⟩
 have hN0 : ({ B with div := 0 } : Bd).Ln := ⟨hB.lR, hB.bR, hB.lV⟩
 have hN1 : ({ B with div := 0, step := 0 } : Bd).Ln := ⟨hB.lR, hB.bR, hB.lV⟩
 have hN2 : ({ B with div := 0, step := 0, on := true } : Bd).Ln := ⟨hB.lR, hB.bR, hB.lV⟩
 have hN3 : ({ B with on := true } : Bd).Ln := ⟨hB.lR, hB.bR, hB.lV⟩
 refine aT func364 ?_
 refine Pw ?_
 refine ZBN fun b0 => ?_
 refine RX (gG (l := cBd bdZ) aO) U ?_
 rintro _ _ ⟨b1, rfl, rfl⟩
 refine ZDG ?_
 refine KC (fun q0 z0 => ?_) (fun q0 z0 => ?_)
 ·refine ZA7 ?_
  refine W (aX U U (bN aE (Wx hB))) U (ZBE ?_)
  refine W (aX U U (bN aE (cBd_step hB))) U (RY (rV (l := cBd ({ bdZ with div := B.div, step := B.step } : Bd)) (z := cBd bdZ) (ps := [(2, .int .i64 B.div), (3, .int .i64 B.step)]) U aO U U) U (RX (gG (l := cBd bdZ) aO) U ?_))
  rintro _ _ ⟨b2, rfl, rfl⟩
  refine W (bF (l' := cBd ({ bdZ with div := B.div, step := B.step } : Bd)) 0 U U U (by rw [cBd_len hZ2]; rfl) (ones_cBd _) U (by rw [cBd_len hZ2, cBd_len bdZ_wf]; decide) (putZ hZ2)) U (iI ?_)
  refine DR [] (bW [0, 2, 4, 6, 9]) ?_
  refine ZBE ?_
  refine DY U (pC 22 48 U U U U U U M M) U (ZBE ?_)
  refine DY U (pC 22 48 U U U U U U M M) U (DZ U (Fb (l' := cBd (offB B)) (m := 26) (ys := (B.regs.drop 22).map (.int .u8)) 0 U U U U U (fun w hw => uB.row (s := 1) b0 22 26 26 ((B.regs.drop 22).map (.int .u8)) (by simp [hB.lR]) (aPA (aH (b := b0) (l := cBd B) aE w hw))) (kE _ _) (by rw [cBd_len hZ2]; decide) (aGn hB)) U aW (mY ?_))
  refine W (bX U U F0 (aH (b := b2) (l := cBd (offB B)) aE)) U (W (bF (l' := cBd (offB B)) 1 U U U F0 (ones_cBd _) U (by rw [cBd_len hB.off.ln, cBd_len bdZ_wf]; decide) (putZ hB.off.ln)) U (iI ?_))
  exact aZ (fun w hw => eW U U F0 (aH (b := b1) (l := cBd (offB B)) aE w hw)) ⟨U, by rw [show on = false by simpa using q0]; rfl⟩
 refine ZBn ?_
 refine W (aX U U (bN (v := .bool B.on) aE (cBd_on hB))) U (ZAm ?_)
 refine KC (fun q1 z1 => ?_) (fun q1 z1 => ?_)
 ·refine ZAm ?_
  refine W (bF (l' := cBd (({ B with div := 0 } : Bd))) 1 U U U U U U yV (Zd hB _)) U (dE ?_)
  refine ZBE ?_
  refine W (bF (l' := cBd (({ B with div := 0, step := 0 } : Bd))) 1 U U U U U U (by rw [cBd_len hN0]; simp only [eF, ax]; omega) (putBd_step hN0 _)) U (dE ?_)
  refine ZBy ?_
  refine W (bF (l' := cBd (({ B with div := 0, step := 0, on := true } : Bd))) 1 U U U U U U (by rw [cBd_len hN1]; simp only [eF, ax]; omega) (aE0 hN1 _)) U (mY ?_)
  refine W (bX U U aAH (aH (b := b0) (l := cBd ({ B with div := 0, step := 0, on := true } : Bd)) aE)) U (W (bF (l' := cBd ({ B with div := 0, step := 0, on := true } : Bd)) 0 U U U (by rw [cBd_len hN2]; rfl) (ones_cBd _) U (by rw [cBd_len hN2, cBd_len bdZ_wf]; decide) (putZ hN2)) U (iI ?_))
  exact aZ (fun w hw => eW U U (by rw [cBd_len hN2]; rfl) (aH (b := b1) (l := cBd ({ B with div := 0, step := 0, on := true } : Bd)) aE w hw)) ⟨U, by rw [show on = true by simpa using q0, ag rfl]; unfold onB; rw [ae (by rw [show B.on = false by simpa using q1]; decide)]⟩
 refine ZBy ?_
 refine W (bF (l' := cBd (({ B with on := true } : Bd))) 1 U U U U U U yV (aE0 hB _)) U (mY ?_)
 refine W (bX U U aAH (aH (b := b0) (l := cBd ({ B with on := true } : Bd)) aE)) U (W (bF (l' := cBd ({ B with on := true } : Bd)) 0 U U U (by rw [cBd_len hN3]; rfl) (ones_cBd _) U (by rw [cBd_len hN3, cBd_len bdZ_wf]; decide) (putZ hN3)) U (iI ?_))
 have hon : B.on = true := by simpa using q1
 exact aZ (fun w hw => eW U U (by rw [cBd_len hN3]; rfl) (aH (b := b1) (l := cBd ({ B with on := true } : Bd)) aE w hw)) ⟨U, by rw [show on = true by simpa using q0, ag rfl]; unfold onB; rw [ag hon, ← hon]⟩
set_option maxHeartbeats 2000000 in
def aEe (B : Bd) (hB : B.Wf) (n x : Int) (hx : 0 ≤ x ∧ x < 256) (w : AI) : aG prog 363 [.agg (cBd B).toArray, .int .i64 n, .int .u8 x] w [] (V_ (.agg (cBd (writeBd n x B)).toArray)) := by
 refine aT func363 ?_
 refine Pw ?_
 refine ZBN fun b0 => ?_
 refine RX (gG (l := cBd bdZ) aO) U ?_
 rintro _ _ ⟨b1, rfl, rfl⟩
 refine ZDG ?_
 refine KL (fun q0 z0 => ?_) (fun q0 z0 => ?_)
 ·refine bA ?_
  refine Qq ?_
  exact ZDW
 refine ZBn ?_
 refine KC (fun q1 z1 => ?_) (fun q1 z1 => ?_)
 ·refine ZAm ?_
  refine Qq ?_
  exact ZDW
 refine aI ?_
 refine KC (fun q2 z2 => ?_) (fun q2 z2 => ?_)
 ·refine ZAm ?_
  refine W (bX U U Gw (aH (b := b0) (l := cBd B) aE)) U (ZBE ?_)
  refine Dm ?_
  refine RW (v := (.bool (decide (x / 128 = 1)))) U U (aD Value.bool Wv) (aP K_ (aS (aLy B hB _)) ?_)
  refine W (bF (l' := cBd (if decide (x / 128 = 1) = true then onB B else offB B)) 0 U U U aAl (ones_cBd _) U (by rw [cBd_len (show (if decide (x / 128 = 1) = true then onB B else offB B).Wf by split; exact hB.onW; exact hB.off), cBd_len bdZ_wf]; decide) (putZ (show (if decide (x / 128 = 1) = true then onB B else offB B).Wf by split; exact hB.onW; exact hB.off))) U (iI ?_)
  exact aZ (fun w hw => eW U U aAl (aH (b := b1) (l := cBd (if decide (x / 128 = 1) = true then onB B else offB B)) aE w hw)) ⟨U, by rw [show writeBd n x B = (if x / 128 = 1 then onB B else offB B) from by unfold writeBd; rw [ae I, ag I]]; simp only [al]⟩
 refine ZBE ?_
 have hon9 : B.on = B.on := rfl
 rcases hon9 : B.on with _ | _
 ·refine Yr ?_
  refine iX ?_
  refine aI ?_
  refine KC (fun q3 z3 => ?_) (fun q3 z3 => ?_)
  ·refine ZAm ?_
   refine Qq ?_
   refine iI ?_
   exact aZ (fun w hw => eW U U Gw (aH (b := b1) (l := cBd B) aE w hw)) ⟨U, by unfold writeBd; rw [ae I, ae I, ag ⟨hon9, aR⟩]⟩
  refine ZAm ?_
  obtain ⟨k, rfl⟩ : ∃ k : Nat, n = k := ⟨n.toNat, aR⟩
  have hPK : (putB k x B).Wf := hB.put k hx
  refine ZBy ?_
  refine Q4 ?_
  refine dE ?_
  refine ZDG ?_
  refine KC (fun q4 z4 => ?_) (fun q4 z4 => ?_)
  ·refine ZAm ?_
   refine W (bX U U Cj (aH (b := b0) (l := cBd (putB k x B)) aE)) U (Tq ?_)
   exact aZ (fun w hw => eW U U Cj (aH (b := b1) (l := cBd (putB k x B)) aE w hw)) ⟨U, W6⟩
  refine ZEU ?_
  refine ZBy ?_
  have hv9 := hPK.v_ (k / 5)
  have hlg : longest (k / 5) = 64 ∨ longest (k / 5) = 256 := by unfold longest; split <;> simp
  have hm9 := f7 x (show 0 < longest (k / 5) by omega)
  have hm8 := fx x (show longest (k / 5) ≠ 0 by omega)
  refine ZCH fun hWL hWO => ?_
  refine ZAm ?_
  refine qD ?_
  refine ZDG ?_
  refine KC (fun q5 z5 => ?_) (fun q5 z5 => ?_)
  ·refine ZA7 ?_
   refine aP K_ (aS (Kn (k / 5))) ?_
   refine nD ?_
   refine ZBE ?_
   refine aP K_ (aS (Kn (k / 5))) ?_
   refine RW (v := (.int .i64 (x % longest (k / 5)))) (tU U U I) U (aD _ (cn I)) (nT ?_)
   refine ZBE ?_
   refine zL ?_
   refine ZBE ?_
   refine W (bF (l' := cBd (((putB k x B).setV (k / 5) { ((putB k x B).v (k / 5)) with len := longest (k / 5) - x % longest (k / 5) }))) 1 U U U U U U Vj (putBd_v hPK (k := 1) I M U)) U (mY ?_)
   refine W (bX U U Hb (aH (b := b0) (l := cBd ((putB k x B).setV (k / 5) { ((putB k x B).v (k / 5)) with len := longest (k / 5) - x % longest (k / 5) })) aE)) U (W (bF (l' := cBd ((putB k x B).setV (k / 5) { ((putB k x B).v (k / 5)) with len := longest (k / 5) - x % longest (k / 5) })) 0 U U U Ui (ones_cBd _) U (by rw [cBd_len hWL, cBd_len bdZ_wf]; decide) (putZ hWL)) U (iI ?_))
   exact aZ (fun w hw => eW U U Ui (aH (b := b1) (l := cBd ((putB k x B).setV (k / 5) { ((putB k x B).v (k / 5)) with len := longest (k / 5) - x % longest (k / 5) })) aE w hw)) ⟨U, aCe⟩
  refine ZBn ?_
  refine KC (fun q6 z6 => ?_) (fun q6 z6 => ?_)
  ·refine ZA7 ?_
   refine Dm ?_
   refine ZAm ?_
   refine KC (fun q7 z7 => ?_) (fun q7 z7 => ?_)
   ·refine ZCb ?_
    refine jT ?_
    refine ZA7 ?_
    refine ZCo ?_
    refine iI ?_
    exact aZ (fun w hw => eW U U J7 (aH (b := b1) (l := cBd (beginB (k / 5) (putB k x B))) aE w hw)) ⟨U, by unfold writeBd; rw [ae I, ae I, ae aBF, ae I, db]; unfold voiceB; rw [ae I, ag I, ag I]⟩
   refine ZA7 ?_
   refine W (bX U U Hb (aH (b := b0) (l := cBd (putB k x B)) aE)) U (Tq ?_)
   exact aZ (fun w hw => eW U U Cj (aH (b := b1) (l := cBd (putB k x B)) aE w hw)) ⟨U, by unfold writeBd; rw [ae I, ae I, ae aBF, ae I, db]; unfold voiceB; rw [ae I, ag I, ae I]⟩
  refine ZBy ?_
  refine zL ?_
  refine ZBE ?_
  refine W (aX U U (bN (v := .bool ((putB k x B).v (k / 5)).on) aE (vR hPK (k := 0) I U))) U (KL (fun q7 z7 => ?_) (fun q7 z7 => ?_))
  ·refine ZFB ?_
   refine RW (v := (.bool (((putB k x B).v (k / 5)).on && readyB (k / 5) (putB k x B)))) U U (by rw [show ((putB k x B).v (k / 5)).on = true from q7]; rfl) (ZBE ?_)
   refine zL ?_
   refine Ou ?_
   refine mY ?_
   refine Ro ?_
   exact ZCS
  refine ZAm ?_
  refine RW (v := (.bool (((putB k x B).v (k / 5)).on && readyB (k / 5) (putB k x B)))) U U (by rw [show ((putB k x B).v (k / 5)).on = false from q7]; rfl) (ZBE ?_)
  refine zL ?_
  refine Ou ?_
  refine mY ?_
  refine Ro ?_
  exact ZCS
 refine Zh ?_
 refine jM ?_
 refine bZ ?_
 obtain ⟨k, rfl⟩ : ∃ k : Nat, n = k := ⟨n.toNat, aR⟩
 have hPK : (putB k x B).Wf := hB.put k hx
 refine ZBy ?_
 refine Q4 ?_
 refine dE ?_
 refine ZDG ?_
 refine KC (fun q3 z3 => ?_) (fun q3 z3 => ?_)
 ·refine ZAm ?_
  refine W (bX U U Cj (aH (b := b0) (l := cBd (putB k x B)) aE)) U (Tq ?_)
  exact aZ (fun w hw => eW U U Cj (aH (b := b1) (l := cBd (putB k x B)) aE w hw)) ⟨U, W6⟩
 refine ZEU ?_
 refine ZBy ?_
 have hv9 := hPK.v_ (k / 5)
 have hlg : longest (k / 5) = 64 ∨ longest (k / 5) = 256 := by unfold longest; split <;> simp
 have hm9 := f7 x (show 0 < longest (k / 5) by omega)
 have hm8 := fx x (show longest (k / 5) ≠ 0 by omega)
 refine ZCH fun hWL hWO => ?_
 refine ZAm ?_
 refine qD ?_
 refine ZDG ?_
 refine KC (fun q4 z4 => ?_) (fun q4 z4 => ?_)
 ·refine ZA7 ?_
  refine aP K_ (aS (Kn (k / 5))) ?_
  refine nD ?_
  refine ZBE ?_
  refine aP K_ (aS (Kn (k / 5))) ?_
  refine RW (v := (.int .i64 (x % longest (k / 5)))) (tU U U I) U (aD _ (cn I)) (nT ?_)
  refine ZBE ?_
  refine zL ?_
  refine ZBE ?_
  refine W (bF (l' := cBd (((putB k x B).setV (k / 5) { ((putB k x B).v (k / 5)) with len := longest (k / 5) - x % longest (k / 5) }))) 1 U U U U U U Vj (putBd_v hPK (k := 1) I M U)) U (mY ?_)
  refine W (bX U U Hb (aH (b := b0) (l := cBd ((putB k x B).setV (k / 5) { ((putB k x B).v (k / 5)) with len := longest (k / 5) - x % longest (k / 5) })) aE)) U (W (bF (l' := cBd ((putB k x B).setV (k / 5) { ((putB k x B).v (k / 5)) with len := longest (k / 5) - x % longest (k / 5) })) 0 U U U Ui (ones_cBd _) U (by rw [cBd_len hWL, cBd_len bdZ_wf]; decide) (putZ hWL)) U (iI ?_))
  exact aZ (fun w hw => eW U U Ui (aH (b := b1) (l := cBd ((putB k x B).setV (k / 5) { ((putB k x B).v (k / 5)) with len := longest (k / 5) - x % longest (k / 5) })) aE w hw)) ⟨U, aCe⟩
 refine ZBn ?_
 refine KC (fun q5 z5 => ?_) (fun q5 z5 => ?_)
 ·refine ZA7 ?_
  refine Dm ?_
  refine ZAm ?_
  refine KC (fun q6 z6 => ?_) (fun q6 z6 => ?_)
  ·refine ZCb ?_
   refine jT ?_
   refine ZA7 ?_
   refine ZCo ?_
   refine iI ?_
   exact aZ (fun w hw => eW U U J7 (aH (b := b1) (l := cBd (beginB (k / 5) (putB k x B))) aE w hw)) ⟨U, by unfold writeBd; rw [ae I, ae I, ae Hi, ae I, db]; unfold voiceB; rw [ae I, ag I, ag I]⟩
  refine ZA7 ?_
  refine W (bX U U Hb (aH (b := b0) (l := cBd (putB k x B)) aE)) U (Tq ?_)
  exact aZ (fun w hw => eW U U Cj (aH (b := b1) (l := cBd (putB k x B)) aE w hw)) ⟨U, by unfold writeBd; rw [ae I, ae I, ae Hi, ae I, db]; unfold voiceB; rw [ae I, ag I, ae I]⟩
 refine ZBy ?_
 refine zL ?_
 refine ZBE ?_
 refine W (aX U U (bN (v := .bool ((putB k x B).v (k / 5)).on) aE (vR hPK (k := 0) I U))) U (KL (fun q6 z6 => ?_) (fun q6 z6 => ?_))
 ·refine ZFB ?_
  refine RW (v := (.bool (((putB k x B).v (k / 5)).on && readyB (k / 5) (putB k x B)))) U U (by rw [show ((putB k x B).v (k / 5)).on = true from q6]; rfl) (ZBE ?_)
  refine zL ?_
  refine Ou ?_
  refine mY ?_
  refine Ro ?_
  exact ZCT
 refine ZAm ?_
 refine RW (v := (.bool (((putB k x B).v (k / 5)).on && readyB (k / 5) (putB k x B)))) U U (by rw [show ((putB k x B).v (k / 5)).on = false from q6]; rfl) (ZBE ?_)
 refine zL ?_
 refine Ou ?_
 refine mY ?_
 refine Ro ?_
 exact ZCT
end Go.Proofs.YthigpmaadmneaaaGreatDoor
