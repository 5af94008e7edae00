/- Parts. -/
import Derived.Test.YthigpmaadmneaaaGreatDoorQsG
set_option maxRecDepth 100000
set_option maxHeartbeats 1000000
set_option linter.all false
namespace Go.Proofs.YthigpmaadmneaaaGreatDoor
open Go Go.VV Go.Proofs Go.RowKit Go.Proofs.Tryz
def Oc (w : AI) : aG prog 195 [] w [] (V_ (.agg (Br.map Z).toArray)) := by
 refine aT func195 ?_
 refine ZAm ?_
 refine nM fun b0 => ?_
 refine ZA7 ?_
 refine RY (Ex (l := [.int .u8 128, .int .u8 63, .int .u8 0, .int .u8 255, .int .u8 191, .int .u8 255, .int .u8 63, .int .u8 0, .int .u8 255, .int .u8 191, .int .u8 127, .int .u8 255, .int .u8 159, .int .u8 255, .int .u8 191, .int .u8 255, .int .u8 255, .int .u8 0, .int .u8 0, .int .u8 191, .int .u8 0, .int .u8 0, .int .u8 112]) (z := [.int .u8 0, .int .u8 0, .int .u8 0, .int .u8 0, .int .u8 0, .int .u8 0, .int .u8 0, .int .u8 0, .int .u8 0, .int .u8 0, .int .u8 0, .int .u8 0, .int .u8 0, .int .u8 0, .int .u8 0, .int .u8 0, .int .u8 0, .int .u8 0, .int .u8 0, .int .u8 0, .int .u8 0, .int .u8 0, .int .u8 0]) (ps := [(0, .int .u8 128), (1, .int .u8 63), (2, .int .u8 0), (3, .int .u8 255), (4, .int .u8 191), (5, .int .u8 255), (6, .int .u8 63), (7, .int .u8 0), (8, .int .u8 255), (9, .int .u8 191), (10, .int .u8 127), (11, .int .u8 255), (12, .int .u8 159), (13, .int .u8 255), (14, .int .u8 191), (15, .int .u8 255), (16, .int .u8 255), (17, .int .u8 0), (18, .int .u8 0), (19, .int .u8 191), (20, .int .u8 0), (21, .int .u8 0), (22, .int .u8 112)]) U U U aO) U (pT ?_)
 exact aZ (fun w hw => eW U U U (aH (b := b0) (l := Br.map Z) aE w hw)) ⟨U, U⟩
def aCA (B : Bd) (hB : B.Wf) (n : Int) (w : AI) : aG prog 163 [.agg (cBd B).toArray, .int .i64 n] w [] (V_ (.int .u8 (readB n B))) := by
 refine aT func163 ?_
 refine Pw ?_
 refine ZBN fun b0 => ?_
 refine bA ?_
 refine KL (fun q0 z0 => ?_) (fun q0 z0 => ?_)
 ·refine Bw ?_
  exact E0 U ⟨U, N2⟩
 refine ZA7 ?_
 refine KL (fun q1 z1 => ?_) (fun q1 z1 => ?_)
 ·refine lZ ?_
  exact E0 U ⟨U, N2⟩
 refine ZAm ?_
 refine KL (fun q2 z2 => ?_) (fun q2 z2 => ?_)
 ·refine aI ?_
  refine KC (fun q3 z3 => ?_) (fun q3 z3 => ?_)
  ·refine ZBn ?_
   exact E0 U ⟨U, N2⟩
  refine ZBE ?_
  obtain ⟨k, rfl⟩ : ∃ k : Nat, n = k := ⟨n.toNat, aR⟩
  refine ZBn ?_
  refine KC (fun q4 z4 => ?_) (fun q4 z4 => ?_)
  ·refine ZBy ?_
   refine RY (eG k U U U I I) U (W (aX U U (bN aE Rz)) U (ZA7 ?_))
   exact E0 U ⟨U, aAA⟩
  refine aI ?_
  refine KC (fun q5 z5 => ?_) (fun q5 z5 => ?_)
  ·refine ZBE ?_
   refine DR [4, 5, 6] (bW [0, 2, 4, 6, 10, 9, 12, 14, 16]) ?_
   refine ZAm ?_
   refine DY U (eG k U U U I I) U (DL U U U (eN aE Rz) U (ZBE ?_))
   refine DZ U (dG K_ U (aS Oc)) U jB (DY U (Ny (l := Br.map Z) k U U U U U U I (gJ (by show k < 23; omega)) U) U (DW U (dM U U) U U (ZA7 ?_)))
   exact E0 U ⟨U, aCS⟩
  refine ZA7 ?_
  refine aP K_ (aS Oc) ?_
  refine ZBE ?_
  refine RY (Ny (l := Br.map Z) 22 U U U U U I I U U) U (ZBy ?_)
  rcases hon9 : B.on with _ | _
  ·refine Yr ?_
   refine ZBE ?_
   refine pE false U U ?_
   refine ZBn ?_
   refine Te ?_
   refine dV (σ := Nat) [5, 6, 7, 50, 51, 52, 53, 54, 55, 56, 57, 58, 59, 60] (fun i => [(5, .int .u8 (onV B i)), (50, .int .i64 i)]) (fun _ => [(b0, J (cBd B) 127)]) (fun i => i ≤ 4) (fun i => 4 - i) 0 ?_ ?_ ?_ ?_
   ·exact av _
   ·exact .cons Of (.cons U .nil)
   ·exact fun _ h => h
   rintro i y11 hi
   refine ZBn ?_
   refine KC (fun q6 z6 => ?_) (fun q6 z6 => ?_)
   ·refine aI ?_
    refine RY (Tw (l := aN dK B.vs) (c := dK (B.v i)) i U U U U U U I (Is B.vs i Me)) U (lE fun b1 => ?_)
    refine kS ?_
    refine ZBy ?_
    refine W (aX U U (bN (v := .bool (B.v i).on) aE U)) U (ZBE ?_)
    refine KC (fun q7 z7 => ?_) (fun q7 z7 => ?_)
    ·rcases (show i = 0 ∨ i = 1 ∨ i = 2 ∨ i = 3 by omega) with rfl | rfl | rfl | rfl
     ·refine pV ?_
      refine RW (v := (.int .u8 (onV B (0 + 1)))) (dM U U) U (aD Z (qE B (n := 0) M q7)) (ZA7 ?_)
      exact RW (v := (.int .i64 ((0 + 1 : Nat) : Int))) U U (aD _ (eX I)) Ql
     ·refine pV ?_
      refine RW (v := (.int .u8 (onV B (1 + 1)))) (dM U U) U (aD Z (qE B (n := 1) M q7)) (ZA7 ?_)
      exact RW (v := (.int .i64 ((1 + 1 : Nat) : Int))) U U (aD _ (eX I)) Rq
     ·refine pV ?_
      refine RW (v := (.int .u8 (onV B (2 + 1)))) (dM U U) U (aD Z (qE B (n := 2) M q7)) (ZA7 ?_)
      exact RW (v := (.int .i64 ((2 + 1 : Nat) : Int))) U U (aD _ (eX I)) Tx
     refine pV ?_
     refine RW (v := (.int .u8 (onV B (3 + 1)))) (dM U U) U (aD Z (qE B (n := 3) M q7)) (ZA7 ?_)
     exact RW (v := (.int .i64 ((3 + 1 : Nat) : Int))) U U (aD _ (eX I)) Rj
    refine ZAm ?_
    refine jF ?_
    exact ⟨i + 1, aR, aR, .cons (aD Z (Nc B q7)) (.cons U .nil), bJ, fun _ h => h.sub (.cons _ aJ)⟩
   refine ZDG ?_
   exact Om
  refine Zh ?_
  refine ZBE ?_
  refine pE true U U ?_
  refine ZAm ?_
  refine RW (v := (.int .u8 240)) (dM U U) U (aD Z (show bL .u8 112 128 = 240 by decide)) (aI ?_)
  refine Te ?_
  refine dV (σ := Nat) [5, 6, 7, 50, 51, 52, 53, 54, 55, 56, 57, 58, 59, 60] (fun i => [(5, .int .u8 (onV B i)), (50, .int .i64 i)]) (fun _ => [(b0, J (cBd B) 127)]) (fun i => i ≤ 4) (fun i => 4 - i) 0 ?_ ?_ ?_ ?_
  ·exact av _
  ·exact .cons Of (.cons U .nil)
  ·exact fun _ h => h
  rintro i y11 hi
  refine ZBn ?_
  refine KC (fun q6 z6 => ?_) (fun q6 z6 => ?_)
  ·refine aI ?_
   refine RY (Tw (l := aN dK B.vs) (c := dK (B.v i)) i U U U U U U I (Is B.vs i Me)) U (lE fun b1 => ?_)
   refine kS ?_
   refine ZBy ?_
   refine W (aX U U (bN (v := .bool (B.v i).on) aE U)) U (ZBE ?_)
   refine KC (fun q7 z7 => ?_) (fun q7 z7 => ?_)
   ·rcases (show i = 0 ∨ i = 1 ∨ i = 2 ∨ i = 3 by omega) with rfl | rfl | rfl | rfl
    ·refine pV ?_
     refine RW (v := (.int .u8 (onV B (0 + 1)))) (dM U U) U (aD Z (qE B (n := 0) M q7)) (ZA7 ?_)
     exact RW (v := (.int .i64 ((0 + 1 : Nat) : Int))) U U (aD _ (eX I)) Ql
    ·refine pV ?_
     refine RW (v := (.int .u8 (onV B (1 + 1)))) (dM U U) U (aD Z (qE B (n := 1) M q7)) (ZA7 ?_)
     exact RW (v := (.int .i64 ((1 + 1 : Nat) : Int))) U U (aD _ (eX I)) Rq
    ·refine pV ?_
     refine RW (v := (.int .u8 (onV B (2 + 1)))) (dM U U) U (aD Z (qE B (n := 2) M q7)) (ZA7 ?_)
     exact RW (v := (.int .i64 ((2 + 1 : Nat) : Int))) U U (aD _ (eX I)) Tx
    refine pV ?_
    refine RW (v := (.int .u8 (onV B (3 + 1)))) (dM U U) U (aD Z (qE B (n := 3) M q7)) (ZA7 ?_)
    exact RW (v := (.int .i64 ((3 + 1 : Nat) : Int))) U U (aD _ (eX I)) Rj
   refine ZAm ?_
   refine jF ?_
   exact ⟨i + 1, aR, aR, .cons (aD Z (Nc B q7)) (.cons U .nil), bJ, fun _ h => h.sub (.cons _ aJ)⟩
  refine ZDG ?_
  exact Om
 refine bA ?_
 obtain ⟨k, rfl⟩ : ∃ k : Nat, n = k := ⟨n.toNat, aR⟩
 refine ZBn ?_
 refine KC (fun q3 z3 => ?_) (fun q3 z3 => ?_)
 ·refine ZBy ?_
  refine RY (eG k U U U I I) U (W (aX U U (bN aE Rz)) U (ZA7 ?_))
  exact E0 U ⟨U, aAA⟩
 refine aI ?_
 refine KC (fun q4 z4 => ?_) (fun q4 z4 => ?_)
 ·refine ZBE ?_
  refine DR [4, 5, 6] (bW [0, 2, 4, 6, 10, 9, 12, 14, 16]) ?_
  refine ZAm ?_
  refine DY U (eG k U U U I I) U (DL U U U (eN aE Rz) U (ZBE ?_))
  refine DZ U (dG K_ U (aS Oc)) U jB (DY U (Ny (l := Br.map Z) k U U U U U U I (gJ (by show k < 23; omega)) U) U (DW U (dM U U) U U (ZA7 ?_)))
  exact E0 U ⟨U, aCS⟩
 refine ZA7 ?_
 refine aP K_ (aS Oc) ?_
 refine ZBE ?_
 refine RY (Ny (l := Br.map Z) 22 U U U U U I I U U) U (ZBy ?_)
 rcases hon9 : B.on with _ | _
 ·refine Yr ?_
  refine ZBE ?_
  refine pE false U U ?_
  refine ZBn ?_
  refine Te ?_
  refine dV (σ := Nat) [5, 6, 7, 50, 51, 52, 53, 54, 55, 56, 57, 58, 59, 60] (fun i => [(5, .int .u8 (onV B i)), (50, .int .i64 i)]) (fun _ => [(b0, J (cBd B) 127)]) (fun i => i ≤ 4) (fun i => 4 - i) 0 ?_ ?_ ?_ ?_
  ·exact av _
  ·exact .cons Of (.cons U .nil)
  ·exact fun _ h => h
  rintro i y11 hi
  refine ZBn ?_
  refine KC (fun q5 z5 => ?_) (fun q5 z5 => ?_)
  ·refine aI ?_
   refine RY (Tw (l := aN dK B.vs) (c := dK (B.v i)) i U U U U U U I (Is B.vs i Me)) U (lE fun b1 => ?_)
   refine kS ?_
   refine ZBy ?_
   refine W (aX U U (bN (v := .bool (B.v i).on) aE U)) U (ZBE ?_)
   refine KC (fun q6 z6 => ?_) (fun q6 z6 => ?_)
   ·rcases (show i = 0 ∨ i = 1 ∨ i = 2 ∨ i = 3 by omega) with rfl | rfl | rfl | rfl
    ·refine pV ?_
     refine RW (v := (.int .u8 (onV B (0 + 1)))) (dM U U) U (aD Z (qE B (n := 0) M q6)) (ZA7 ?_)
     exact RW (v := (.int .i64 ((0 + 1 : Nat) : Int))) U U (aD _ (eX I)) Ql
    ·refine pV ?_
     refine RW (v := (.int .u8 (onV B (1 + 1)))) (dM U U) U (aD Z (qE B (n := 1) M q6)) (ZA7 ?_)
     exact RW (v := (.int .i64 ((1 + 1 : Nat) : Int))) U U (aD _ (eX I)) Rq
    ·refine pV ?_
     refine RW (v := (.int .u8 (onV B (2 + 1)))) (dM U U) U (aD Z (qE B (n := 2) M q6)) (ZA7 ?_)
     exact RW (v := (.int .i64 ((2 + 1 : Nat) : Int))) U U (aD _ (eX I)) Tx
    refine pV ?_
    refine RW (v := (.int .u8 (onV B (3 + 1)))) (dM U U) U (aD Z (qE B (n := 3) M q6)) (ZA7 ?_)
    exact RW (v := (.int .i64 ((3 + 1 : Nat) : Int))) U U (aD _ (eX I)) Rj
   refine ZAm ?_
   refine jF ?_
   exact ⟨i + 1, aR, aR, .cons (aD Z (Nc B q6)) (.cons U .nil), bJ, fun _ h => h.sub (.cons _ aJ)⟩
  refine ZDG ?_
  exact Om
 refine Zh ?_
 refine ZBE ?_
 refine pE true U U ?_
 refine ZAm ?_
 refine RW (v := (.int .u8 240)) (dM U U) U (aD Z (show bL .u8 112 128 = 240 by decide)) (aI ?_)
 refine Te ?_
 refine dV (σ := Nat) [5, 6, 7, 50, 51, 52, 53, 54, 55, 56, 57, 58, 59, 60] (fun i => [(5, .int .u8 (onV B i)), (50, .int .i64 i)]) (fun _ => [(b0, J (cBd B) 127)]) (fun i => i ≤ 4) (fun i => 4 - i) 0 ?_ ?_ ?_ ?_
 ·exact av _
 ·exact .cons Of (.cons U .nil)
 ·exact fun _ h => h
 rintro i y11 hi
 refine ZBn ?_
 refine KC (fun q5 z5 => ?_) (fun q5 z5 => ?_)
 ·refine aI ?_
  refine RY (Tw (l := aN dK B.vs) (c := dK (B.v i)) i U U U U U U I (Is B.vs i Me)) U (lE fun b1 => ?_)
  refine kS ?_
  refine ZBy ?_
  refine W (aX U U (bN (v := .bool (B.v i).on) aE U)) U (ZBE ?_)
  refine KC (fun q6 z6 => ?_) (fun q6 z6 => ?_)
  ·rcases (show i = 0 ∨ i = 1 ∨ i = 2 ∨ i = 3 by omega) with rfl | rfl | rfl | rfl
   ·refine pV ?_
    refine RW (v := (.int .u8 (onV B (0 + 1)))) (dM U U) U (aD Z (qE B (n := 0) M q6)) (ZA7 ?_)
    exact RW (v := (.int .i64 ((0 + 1 : Nat) : Int))) U U (aD _ (eX I)) Ql
   ·refine pV ?_
    refine RW (v := (.int .u8 (onV B (1 + 1)))) (dM U U) U (aD Z (qE B (n := 1) M q6)) (ZA7 ?_)
    exact RW (v := (.int .i64 ((1 + 1 : Nat) : Int))) U U (aD _ (eX I)) Rq
   ·refine pV ?_
    refine RW (v := (.int .u8 (onV B (2 + 1)))) (dM U U) U (aD Z (qE B (n := 2) M q6)) (ZA7 ?_)
    exact RW (v := (.int .i64 ((2 + 1 : Nat) : Int))) U U (aD _ (eX I)) Tx
   refine pV ?_
   refine RW (v := (.int .u8 (onV B (3 + 1)))) (dM U U) U (aD Z (qE B (n := 3) M q6)) (ZA7 ?_)
   exact RW (v := (.int .i64 ((3 + 1 : Nat) : Int))) U U (aD _ (eX I)) Rj
  refine ZAm ?_
  refine jF ?_
  exact ⟨i + 1, aR, aR, .cons (aD Z (Nc B q6)) (.cons U .nil), bJ, fun _ h => h.sub (.cons _ aJ)⟩
 refine ZDG ?_
 exact Om
def Yc (a : Int) (ha : 0 ≤ a ∧ a < 65536) (w : AI) : aG prog 125 [.int .u16 a] w [] (V_ (.bool (pictured a))) := by
 refine aT func125 ?_
 refine bA ?_
 refine KL (fun q0 z0 => ?_) (fun q0 z0 => ?_)
 ·refine ZA7 ?_
  refine KL (fun q1 z1 => ?_) (fun q1 z1 => ?_)
  ·refine Gv ?_
   exact E0 U ⟨U, (aD Value.bool Eg)⟩
  refine ZAm ?_
  refine KL (fun q2 z2 => ?_) (fun q2 z2 => ?_)
  ·refine ZBy ?_
   refine KL (fun q3 z3 => ?_) (fun q3 z3 => ?_)
   ·refine jN ?_
    exact E0 U ⟨U, (aD Value.bool Eg)⟩
   refine ZAm ?_
   refine KL (fun q4 z4 => ?_) (fun q4 z4 => ?_)
   ·refine ZA7 ?_
    refine KL (fun q5 z5 => ?_) (fun q5 z5 => ?_)
    ·exact ZE7
    exact ZE7
   exact F7
  refine ZDG ?_
  exact ZDR
 refine aI ?_
 refine KL (fun q1 z1 => ?_) (fun q1 z1 => ?_)
 ·refine ZBy ?_
  refine KL (fun q2 z2 => ?_) (fun q2 z2 => ?_)
  ·refine jN ?_
   exact E0 U ⟨U, (aD Value.bool Eg)⟩
  refine ZAm ?_
  exact ZDR
 refine ZDG ?_
 refine KL (fun q2 z2 => ?_) (fun q2 z2 => ?_)
 ·refine ZA7 ?_
  refine KL (fun q3 z3 => ?_) (fun q3 z3 => ?_)
  ·exact ZE7
  exact ZE7
 exact F7
def aGE (A : Ad) (acc : AH) (m : Mm) (h : m.Wf) (w : AI) (hm : aK w A.mb 0 (cMm A acc m)) (hu : aK w A.ub 0 (cU m.u)) (hr : aK w A.rb 0 (m.ram.map (.int .u8))) (ho : aK w A.ob 0 (m.rom.map (.int .u8))) (a : Int) (ha : 0 ≤ a ∧ a < 65536) : aG prog 127 [P_ A.mb, .int .u16 a] w [] (V_ (.int .u8 (xE a m))) := by
 have hl9 := h.lRam
 refine aT func127 ?_
 refine aI ?_
 rcases hc9 : clockB m.bk with _ | p
 ·refine ZBn ?_
  refine Jc ?_
  refine Mu ?_
  refine rB ?_
  refine ZBy ?_
  rcases hat9 : atB_ a m.bk with _ | n
  ·refine ZBn ?_
   refine Jc ?_
   refine Ut ?_
   rw [hat9]
   refine iG ?_
   refine iX ?_
   refine bA ?_
   exact E0 U ⟨U, (by unfold xE; rw [hc9]; dsimp only; rw [hat9])⟩
  refine ZBn ?_
  refine Jc ?_
  refine Ut ?_
  rw [hat9]
  refine iG ?_
  refine jM ?_
  refine bZ ?_
  refine W (aX U U (cB (hm _ _ (get_mid h.ln (j := 7) U)) aL)) U (ZA7 ?_)
  refine KC (fun q0 z0 => ?_) (fun q0 z0 => ?_)
  ·refine ZBn ?_
   have hn9 := D7 a hat9
   refine Zj ?_
   refine ZBE ?_
   refine ZE2 ?_
   refine oJ ?_
   refine ZA7 ?_
   exact E0 U ⟨U, (by unfold xE; rw [hc9]; dsimp only; rw [hat9]; dsimp only; rw [ag I])⟩
  refine aI ?_
  have hn9 := D7 a hat9
  refine Zj ?_
  refine ZBE ?_
  refine ZE2 ?_
  refine ZA7 ?_
  exact E0 U ⟨U, (by unfold xE; rw [hc9]; dsimp only; rw [hat9]; dsimp only; rw [ae I])⟩
 refine ZBn ?_
 refine Jc ?_
 refine Mu ?_
 refine bA ?_
 refine iX ?_
 refine bA ?_
 refine W (bX U U U (fun w hw => rowM_ck (cG hm aL w hw))) U (ZBE ?_)
 refine aP K_ (aS (aMm m.ck h.ck p)) ?_
 refine ZA7 ?_
 exact E0 U ⟨U, (by unfold xE; rw [hc9])⟩
def aH4 (A : Ad) (acc : AH) (m : Mm) (h : m.Wf) (w : AI) (hm : aK w A.mb 0 (cMm A acc m)) (hu : aK w A.ub 0 (cU m.u)) (hr : aK w A.rb 0 (m.ram.map (.int .u8))) (ho : aK w A.ob 0 (m.rom.map (.int .u8))) (a : Int) (ha : 65280 ≤ a ∧ a < 65536) : aG prog 128 [P_ A.mb, .int .u16 a] w [] (V_ (.int .u8 (deviceM a m))) := by
 refine aT func128 ?_
 refine ZDG ?_
 refine fB ?_
 refine cL ?_
 refine KC (fun q0 z0 => ?_) (fun q0 z0 => ?_)
 ·refine aI ?_
  refine W (bX U U U (fun w hw => Xw (cG hm aL w hw))) U (aP K_ (aS (aKL m.pd)) ?_)
  exact oC
 refine aI ?_
 refine KC (fun q1 z1 => ?_) (fun q1 z1 => ?_)
 ·refine aI ?_
  refine W (bX U U U (fun w hw => D8 (cG hm aL w hw))) U (ZBE ?_)
  refine nT ?_
  refine aP K_ (aS (aGT m.pt h.pt _)) ?_
  exact oC
 refine ZBy ?_
 refine KL (fun q2 z2 => ?_) (fun q2 z2 => ?_)
 ·refine ZBn ?_
  refine KC (fun q3 z3 => ?_) (fun q3 z3 => ?_)
  ·refine aI ?_
   refine W (bX U U U (fun w hw => Yw (cG hm aL w hw))) U (ZBE ?_)
   refine nT ?_
   refine aP K_ (aS (aPQ m.tm h.tm _)) ?_
   exact oC
  refine aI ?_
  refine KC (fun q4 z4 => ?_) (fun q4 z4 => ?_)
  ·refine aI ?_
   refine W (aX U U (cB (hm _ _ (get_mid h.ln (j := 0) U)) aL)) U (oJ ?_)
   exact oC
  refine ZBy ?_
  refine KL (fun q5 z5 => ?_) (fun q5 z5 => ?_)
  ·refine ZBn ?_
   refine KC (fun q6 z6 => ?_) (fun q6 z6 => ?_)
   ·refine aI ?_
    refine W (bX U U Ox (fun w hw => rowM_bd (cG hm aL w hw))) U (ZBE ?_)
    refine nT ?_
    refine aP K_ (aS (aCA m.bd h.bd _)) ?_
    exact oC
   refine aI ?_
   refine KC (fun q7 z7 => ?_) (fun q7 z7 => ?_)
   ·refine ZDG ?_
    exact W (aX U U (fun w hw => Tn)) U oC
   refine aI ?_
   refine KC (fun q8 z8 => ?_) (fun q8 z8 => ?_)
   ·refine aI ?_
    exact W (aX U U (cB (hm _ _ (get_mid h.ln (j := 1) U)) aL)) U oC
   refine aI ?_
   refine KC (fun q9 z9 => ?_) (fun q9 z9 => ?_)
   ·refine ZBy ?_
    refine RW (nA U U) U qZ (ZAm ?_)
    exact RY (eG (a - 65408).toNat U U U I I) U (W (aX U U (cB (by have q8 := hm _ _ (get_high h.ln (j := (a - 65408).toNat) I); rwa [← eh] at q8) aL)) U oC)
   exact J2
  refine fJ ?_
  refine KC (fun q6 z6 => ?_) (fun q6 z6 => ?_)
  ·refine ZDG ?_
   exact W (aX U U (fun w hw => Tn)) U oC
  refine aI ?_
  refine KC (fun q7 z7 => ?_) (fun q7 z7 => ?_)
  ·refine aI ?_
   exact W (aX U U (cB (hm _ _ (get_mid h.ln (j := 1) U)) aL)) U oC
  refine aI ?_
  exact ZFH
 refine fJ ?_
 refine KC (fun q3 z3 => ?_) (fun q3 z3 => ?_)
 ·refine aI ?_
  refine W (aX U U (cB (hm _ _ (get_mid h.ln (j := 0) U)) aL)) U (oJ ?_)
  exact oC
 refine ZBy ?_
 refine KL (fun q4 z4 => ?_) (fun q4 z4 => ?_)
 ·refine ZBn ?_
  refine KC (fun q5 z5 => ?_) (fun q5 z5 => ?_)
  ·refine aI ?_
   refine W (bX U U Ox (fun w hw => rowM_bd (cG hm aL w hw))) U (ZBE ?_)
   refine nT ?_
   refine aP K_ (aS (aCA m.bd h.bd _)) ?_
   exact oC
  refine aI ?_
  refine KC (fun q6 z6 => ?_) (fun q6 z6 => ?_)
  ·refine ZDG ?_
   exact W (aX U U (fun w hw => Tn)) U oC
  refine aI ?_
  refine KC (fun q7 z7 => ?_) (fun q7 z7 => ?_)
  ·refine aI ?_
   exact W (aX U U (cB (hm _ _ (get_mid h.ln (j := 1) U)) aL)) U oC
  refine aI ?_
  exact ZFH
 refine fJ ?_
 refine KC (fun q5 z5 => ?_) (fun q5 z5 => ?_)
 ·refine ZDG ?_
  exact W (aX U U (fun w hw => Tn)) U oC
 refine aI ?_
 refine KC (fun q6 z6 => ?_) (fun q6 z6 => ?_)
 ·refine aI ?_
  exact W (aX U U (cB (hm _ _ (get_mid h.ln (j := 1) U)) aL)) U oC
 refine aI ?_
 refine KC (fun q7 z7 => ?_) (fun q7 z7 => ?_)
 ·refine ZBy ?_
  refine RW (nA U U) U qZ (ZAm ?_)
  exact RY (eG (a - 65408).toNat U U U I I) U (W (aX U U (cB aAf aL)) U oC)
 exact J2
def aBO (A : Ad) (acc : AH) (m : Mm) (h : m.Wf) (w : AI) (hm : aK w A.mb 0 (cMm A acc m)) (hu : aK w A.ub 0 (cU m.u)) (hr : aK w A.rb 0 (m.ram.map (.int .u8))) (ho : aK w A.ob 0 (m.rom.map (.int .u8))) (a : Int) (ha : 0 ≤ a ∧ a < 65536) : aG prog 90 [P_ A.mb, .int .u16 a] w [] (V_ (.int .u8 (qW a m))) := by
 have hrom := aHu h ha
 refine aT func90 ?_
 refine bZ ?_
 refine jM ?_
 refine bZ ?_
 refine KC (fun q0 z0 => ?_) (fun q0 z0 => ?_)
 ·refine ZBE ?_
  refine DR [4, 5, 6, 7, 8, 9, 10] (bW [0, 2, 4, 6, 8, 10, 12, 14, 16, 18, 21, 22, 24, 26]) ?_
  refine ZA7 ?_
  refine DL U U U (gD (hm _ _ (get_mid h.ln (j := 4) U)) aL) U (ZBy ?_)
  refine gL U U U U (fun w hw => rowM_bk (Yv hm aL w hw)) U U ?_
  refine ZBE ?_
  refine DZ U (dG K_ U (aS (aJh m.bk h.bk h.banks a ha))) U jB (DY U (eB (Dg a m.bk).toNat U U U I I) U (DL U U U (gD (ho _ _ (gJ (j := (Dg a m.bk).toNat) I)) aL) U (ZA7 ?_)))
  exact E0 U ⟨U, (by unfold qW; rw [ag I])⟩
 refine ZA7 ?_
 refine aP K_ (aS (Yc a ha)) ?_
 refine ZAm ?_
 refine KC (fun q1 z1 => ?_) (fun q1 z1 => ?_)
 ·refine ZBn ?_
  refine W (aX U U (cB (hm _ _ (get_mid h.ln (j := 14) U)) aL)) U (ZBE ?_)
  refine aP K_ (fun w hw => peek_fn A.ub m.u h.u.wf w (cG hu aL w hw) a ha) ?_
  refine ZA7 ?_
  exact E0 U ⟨U, (by unfold qW; rw [ae I, ag q1])⟩
 refine aI ?_
 refine KC (fun q2 z2 => ?_) (fun q2 z2 => ?_)
 ·refine ZBy ?_
  refine aP K_ (fun w hw => aGE A acc m h w (cG hm aL w hw) (cG hu aL w hw) (cG hr aL w hw) (cG ho aL w hw) a ha) ?_
  refine ZA7 ?_
  exact E0 U ⟨U, (by unfold qW; rw [ae I, ae uX, ag I])⟩
 refine aI ?_
 refine KC (fun q3 z3 => ?_) (fun q3 z3 => ?_)
 ·refine ZBy ?_
  refine qD ?_
  refine ZAm ?_
  refine RY (eG (a % 8192).toNat U U U I I) U (W (aX U U (cB (by have h9 := hm _ _ (aBG h.ln (j := (a % 8192).toNat) I); rwa [← eh] at h9) aL)) U (ZA7 ?_))
  exact E0 U ⟨U, (by unfold qW; rw [ae I, ae uX, ae I, ag I])⟩
 refine aI ?_
 refine KC (fun q4 z4 => ?_) (fun q4 z4 => ?_)
 ·refine ZBn ?_
  exact E0 U ⟨U, (by unfold qW; rw [ae I, ae uX, ae I, ae I, ag I])⟩
 refine ZBn ?_
 refine aP K_ (fun w hw => aH4 A acc m h w (cG hm aL w hw) (cG hu aL w hw) (cG hr aL w hw) (cG ho aL w hw) a I) ?_
 refine ZA7 ?_
 exact E0 U ⟨U, (by unfold qW; rw [ae I, ae uX, ae I, ae I, ae I])⟩
def aBp (A : Ad) (acc : AH) (m : Mm) (h : dY m) (w : AI) (hm : aK w A.mb 0 (cMm A acc m)) : aG prog 87 [P_ A.mb] w [] (V_ (.agg (cS m.cpu).toArray)) := by
 refine aT func87 ?_
 refine ZAm ?_
 refine nM fun b0 => ?_
 refine ZBn ?_
 refine jM ?_
 refine bZ ?_
 refine W (bX U U U (fun w hw => aDB (cG hm aL w hw))) U (pT ?_)
 exact aZ (fun w hw => eW U U U (aH (b := b0) aE w hw)) ⟨U, U⟩
def aPI (A : Ad) (acc : AH) (m : Mm) (h : m.Wf) (w : AI) (hm : aK w A.mb 0 (cMm A acc m)) (a : Int) (ha : 0 ≤ a ∧ a < 65536) : aG prog 141 [P_ A.mb, .int .u16 a] w [] (V_ (.int .i64 (if 32768 ≤ a then 0 else bankB a m.bk))) := by
 refine aT func141 ?_
 refine rB ?_
 refine ZBn ?_
 refine KC (fun q0 z0 => ?_) (fun q0 z0 => ?_)
 ·refine ZBn ?_
  exact E0 U ⟨U, (aD (Value.int .i64) Qb)⟩
 refine ZDG ?_
 refine Jc ?_
 refine ZBE ?_
 refine aP K_ (aS (aDb m.bk h.bk h.banks a ha)) ?_
 refine ZA7 ?_
 exact E0 U ⟨U, (aD (Value.int .i64) Qt)⟩
def ask_fnM (A : Ad) (acc : AH) (m : Mm) (h : dY m) (k : Int) (is : Bool) (w : AI) (hst : St w [A.mb] [(A.mb, J (cMm A acc m) 134)] w) : aG prog 175 [P_ A.mb, .int .u8 k, .bool is] w [A.mb] (fun v H => v = .tuple #[] ∧ H = [(A.mb, J (cMm A acc (askM k is m)) 134)]) := by
 refine cE func175 hst ?_
 refine ZBy ?_
 refine KC (fun q0 z0 => ?_) (fun q0 z0 => ?_)
 ·refine ZBn ?_
  refine W (aX U U (bN aE (get_mid h (j := 0) U))) U (ZBE ?_)
  refine RY (dM U U) U (ZA7 ?_)
  refine W (bF (l' := cMm A acc { m with flags := bL .u8 m.flags k }) 0 U U U U U U (by rw [cMm_len h]; exact ai rfl) (Jv h _)) U (dE ?_)
  refine ZBE ?_
  exact EN aJ ⟨U, by rw [show askM k is m = { m with flags := bL .u8 m.flags k } from ag q0]⟩
 refine ZBE ?_
 exact EN aJ ⟨U, by rw [show askM k is m = m from ae (by rw [q0]; decide)]⟩
set_option maxHeartbeats 4000000 in
def cycle_fn (A : Ad) (acc : AH) (m : Mm) (h : m.Wf) (w : AI) (hst : St w [A.mb, A.ub] [(A.mb, J (cMm A acc m) 134), (A.ub, J (cU m.u) 172)] w) (hr : aK w A.rb 0 (m.ram.map (.int .u8))) (ho : aK w A.ob 0 (m.rom.map (.int .u8))) (hd : A.rb ∉ [A.mb, A.ub] ∧ A.ob ∉ [A.mb, A.ub]) : aG prog 341 [P_ A.mb] w [A.mb, A.ub] (fun v H => v = .tuple #[] ∧ H = [(A.mb, J (cMm A acc (cycleM m)) 134), (A.ub, J (cU (cycleM m).u) 172)]) := by
 have q0 := h.cyc1W
 have q1 := q0.cyc2W
 have q2 := q1.cyc3W
 have q3 := q2.cyc4W
 have q4 := q3.cyc5W
 have hA3 : ({ (cyc2 (cyc1 m)) with cp := tickCp (cyc2 (cyc1 m)).cp } : Mm).Wf := q1.cp_ q1.cp.tick
 have hA0 : dY ({ m with cycles := (m.cycles + 1) % 18446744073709551616 } : Mm) := ⟨h.ln.bd, h.ln.work, h.ln.high⟩
 have hA1 : dY ({ m with cycles := (m.cycles + 1) % 18446744073709551616, tm := vO m.tm } : Mm) := ⟨h.ln.bd, h.ln.work, h.ln.high⟩
 have hr2 : aK w A.rb 0 ((cyc2 (cyc1 m)).ram.map (.int .u8)) := by rw [aCM]; exact hr
 have ho2 : aK w A.ob 0 ((cyc2 (cyc1 m)).rom.map (.int .u8)) := by rw [aA1]; exact ho
 have hA2 : dY ({ (cyc1 m) with pt := tickPt (cyc1 m).pt } : Mm) := ⟨q0.ln.bd, q0.ln.work, q0.ln.high⟩
 have hA5 : dY ({ (cyc4 (cyc3 (cyc2 (cyc1 m)))) with u := tickU (cyc4 (cyc3 (cyc2 (cyc1 m)))).u } : Mm) := ⟨q3.ln.bd, q3.ln.work, q3.ln.high⟩
 have hA5b : dY (askM 1 (aQ .u8 (tickV (cyc4 (cyc3 (cyc2 (cyc1 m)))).u) 1 != 0) { (cyc4 (cyc3 (cyc2 (cyc1 m)))) with u := tickU (cyc4 (cyc3 (cyc2 (cyc1 m)))).u }) := ((q3.u_ q3.u.tick).ask _ _).ln
 refine cE func341 hst ?_
 refine aI ?_
 refine W (aX U U (bN (v := .int .u64 m.cycles) aE (get_mid h.ln (j := 3) U))) U (RW (nL U U) U aCB (ZA7 ?_))
 refine W (bF (l' := cMm A acc { m with cycles := (m.cycles + 1) % 18446744073709551616 }) 0 U U U U U U mE (aE3 h.ln _)) U (dE ?_)
 refine fJ ?_
 refine W (bX U U U (fun w hw => Yw (m := ({ m with cycles := (m.cycles + 1) % 18446744073709551616 } : Mm)) (acc := acc) (aH (b := A.mb) aE w hw))) U (aP K_ (aS (aKT m.tm h.tm)) ?_)
 refine aI ?_
 refine W (bF (l' := cMm A acc { m with cycles := (m.cycles + 1) % 18446744073709551616, tm := vO m.tm }) 0 U U U U U U (by rw [cMm_len hA0]; exact ai rfl) (aCz _)) U (rQ ?_)
 refine RX (eO (F := []) (A := [(A.mb, J (cMm A acc { m with cycles := (m.cycles + 1) % 18446744073709551616, tm := vO m.tm }) 134)]) (G := [(A.ub, J (cU m.u) 172)]) (R := fun v H => v = .tuple #[] ∧ H = [(A.mb, J (cMm A acc (askM 4 m.tm.over { m with cycles := (m.cycles + 1) % 18446744073709551616, tm := vO m.tm })) 134)]) K_ U (fun w hw _ => ask_fnM A acc { m with cycles := (m.cycles + 1) % 18446744073709551616, tm := vO m.tm } hA1 4 m.tm.over w hw)) U (jT ?_)
 refine ZAm ?_
 refine kG (L' := [(A.mb, J (cMm A acc (cyc1 m)) 134), (A.ub, J (cU (cyc1 m).u) 172)]) (fun _ h => h.as (by rw [aNQ]; rfl)) ?_
 refine aI ?_
 refine W (bX U U U (fun w hw => D8 (m := (cyc1 m)) (acc := acc) (aH (b := A.mb) aE w hw))) U (aP K_ (aS (aOe (cyc1 m).pt q0.pt)) ?_)
 refine aI ?_
 refine W (bF (l' := cMm A acc { (cyc1 m) with pt := tickPt (cyc1 m).pt }) 0 U U U U U U (by rw [cMm_len q0.ln]; exact ai rfl) (aFm _)) U (rQ ?_)
 refine RX (eO (F := []) (A := [(A.mb, J (cMm A acc { (cyc1 m) with pt := tickPt (cyc1 m).pt }) 134)]) (G := [(A.ub, J (cU (cyc1 m).u) 172)]) (R := fun v H => v = .tuple #[] ∧ H = [(A.mb, J (cMm A acc (askM 8 (uF (cyc1 m).pt) { (cyc1 m) with pt := tickPt (cyc1 m).pt })) 134)]) K_ U (fun w hw _ => ask_fnM A acc { (cyc1 m) with pt := tickPt (cyc1 m).pt } hA2 8 (uF (cyc1 m).pt) w hw)) U (jT ?_)
 refine ZAm ?_
 refine kG (L' := [(A.mb, J (cMm A acc (cyc2 (cyc1 m))) 134), (A.ub, J (cU (cyc2 (cyc1 m)).u) 172)]) (fun _ h => h.as (by rw [aHn]; rfl)) ?_
 refine ZBn ?_
 refine W (bX U U U (fun w hw => rowM_cp (m := (cyc2 (cyc1 m))) (acc := acc) (aH (b := A.mb) aE w hw))) U (aP K_ (aS (aFQ (cyc2 (cyc1 m)).cp q1.cp)) ?_)
 refine ZBn ?_
 refine nM fun b0 => ?_
 refine W (bH (l' := cCp (tickCp (cyc2 (cyc1 m)).cp)) 0) U (dE ?_)
 refine ZDG ?_
 refine yW ?_
 refine ZA7 ?_
 refine W (bF (l' := cMm A acc { (cyc2 (cyc1 m)) with cp := tickCp (cyc2 (cyc1 m)).cp }) 1 U U U U U U (by rw [cMm_len q1.ln]; exact ai rfl) (Lg _)) U (rQ ?_)
 refine KC (fun q0 z0 => ?_) (fun q0 z0 => ?_)
 ·refine DR [4, 5, 6, 7] (bW [0, 2, 4, 6, 8, 10, 12, 15, 17]) ?_
  refine ZA7 ?_
  refine DL U U U (eN (v := P_ A.ub) aE (get_mid (m := ({ (cyc2 (cyc1 m)) with cp := tickCp (cyc2 (cyc1 m)).cp } : Mm)) hA3.ln (j := 14) U)) U (ZA7 ?_)
  refine DZ U (dG K_ U (fun w hw => aBO A acc { (cyc2 (cyc1 m)) with cp := tickCp (cyc2 (cyc1 m)).cp } hA3 w (aH (b := A.mb) aE w hw) (aH (b := A.ub) aE w hw) (cG hr2 hd.1 w hw) (cG ho2 hd.2 w hw) _ (aJ7 _))) U jB (DX U (eO (F := [(b0, J (cCp (tickCp (cyc2 (cyc1 m)).cp)) 121), (A.mb, J (cMm A acc { (cyc2 (cyc1 m)) with cp := tickCp (cyc2 (cyc1 m)).cp }) 134)]) (A := [(A.ub, J (cU (cyc2 (cyc1 m)).u) 172)]) (G := []) (R := fun v H => v = .tuple #[] ∧ H = [(A.ub, J (cU (vF (cyc2 (cyc1 m)).u (De (cyc2 (cyc1 m)).cp) (qW (wR (cyc2 (cyc1 m)).cp) { (cyc2 (cyc1 m)) with cp := tickCp (cyc2 (cyc1 m)).cp }))) 172)]) K_ U (fun w hw _ => aOm A.ub (cyc2 (cyc1 m)).u q1.u.wf w hw (De (cyc2 (cyc1 m)).cp) (qW (wR (cyc2 (cyc1 m)).cp) { (cyc2 (cyc1 m)) with cp := tickCp (cyc2 (cyc1 m)).cp }) (Nr hA3 _))) U aW (jT ?_))
  refine ZAm ?_
  refine kG (L' := [(b0, J (cCp (tickCp (cyc2 (cyc1 m)).cp)) 121), (A.mb, J (cMm A acc (cyc3 (cyc2 (cyc1 m)))) 134), (A.ub, J (cU (cyc3 (cyc2 (cyc1 m))).u) 172)]) (fun _ h => h.as (by rw [aNe q0]; rfl)) ?_
  refine aI ?_
  refine ZC4 ?_
  refine ZDf ?_
  refine rQ ?_
  refine ZAt ?_
  refine jT ?_
  refine aI ?_
  refine RW (v := (.int .u8 (aQ .u8 (tickV (cyc4 (cyc3 (cyc2 (cyc1 m)))).u) 1))) (cM U U) U U (ZAg ?_)
  refine jT ?_
  refine ZBn ?_
  refine RW (v := (.int .u8 (aQ .u8 (tickV (cyc4 (cyc3 (cyc2 (cyc1 m)))).u) 2))) (cM U U) U U (ZAX ?_)
  refine jT ?_
  refine ZCi ?_
  refine S6 ?_
  refine ZBE ?_
  refine KC (fun q1 z1 => ?_) (fun q1 z1 => ?_)
  ·refine aI ?_
   refine ZC0 ?_
   refine U4 ?_
   refine dE ?_
   refine ZBE ?_
   exact EN (.cons _ aJ) ⟨U, by unfold cycleM; rw [show qY (cyc5 (cyc4 (cyc3 (cyc2 (cyc1 m))))) = { (cyc5 (cyc4 (cyc3 (cyc2 (cyc1 m))))) with ck := tickCk (cyc5 (cyc4 (cyc3 (cyc2 (cyc1 m))))).ck } from ag q1]⟩
  refine ZBE ?_
  exact EN (.cons _ aJ) ⟨U, by unfold cycleM; rw [show qY (cyc5 (cyc4 (cyc3 (cyc2 (cyc1 m))))) = (cyc5 (cyc4 (cyc3 (cyc2 (cyc1 m))))) from ae uX]⟩
 refine ZAm ?_
 obtain ⟨e8, e9⟩ := aJA q0
 refine kG (L' := [(b0, J (cCp (tickCp (cyc2 (cyc1 m)).cp)) 121), (A.mb, J (cMm A acc (cyc3 (cyc2 (cyc1 m)))) 134), (A.ub, J (cU (cyc3 (cyc2 (cyc1 m))).u) 172)]) (fun _ h => h.as (by rw [e8]; exact aD (fun z => [(b0, J (cCp (tickCp (cyc2 (cyc1 m)).cp)) 121), (A.mb, J (cMm A acc z) 134), (A.ub, J (cU (cyc2 (cyc1 m)).u) 172)]) e9)) ?_
 refine aI ?_
 refine ZC4 ?_
 refine ZDf ?_
 refine rQ ?_
 refine ZAt ?_
 refine jT ?_
 refine aI ?_
 refine RW (v := (.int .u8 (aQ .u8 (tickV (cyc4 (cyc3 (cyc2 (cyc1 m)))).u) 1))) (cM U U) U U (ZAg ?_)
 refine jT ?_
 refine ZBn ?_
 refine RW (v := (.int .u8 (aQ .u8 (tickV (cyc4 (cyc3 (cyc2 (cyc1 m)))).u) 2))) (cM U U) U U (ZAX ?_)
 refine jT ?_
 refine ZCi ?_
 refine S6 ?_
 refine ZBE ?_
 refine KC (fun q2 z2 => ?_) (fun q2 z2 => ?_)
 ·refine aI ?_
  refine ZC0 ?_
  refine U4 ?_
  refine dE ?_
  refine ZBE ?_
  exact EN (.cons _ aJ) ⟨U, by unfold cycleM; rw [show qY (cyc5 (cyc4 (cyc3 (cyc2 (cyc1 m))))) = { (cyc5 (cyc4 (cyc3 (cyc2 (cyc1 m))))) with ck := tickCk (cyc5 (cyc4 (cyc3 (cyc2 (cyc1 m))))).ck } from ag q2]⟩
 refine ZBE ?_
 exact EN (.cons _ aJ) ⟨U, by unfold cycleM; rw [show qY (cyc5 (cyc4 (cyc3 (cyc2 (cyc1 m))))) = (cyc5 (cyc4 (cyc3 (cyc2 (cyc1 m))))) from ae (by rw [q2]; decide)]⟩
def aPb (A : Ad) (acc : AH) (m : Mm) (h : m.Wf) (a x : Int) (ha : 0 ≤ a ∧ a < 65536) (hx : 0 ≤ x ∧ x < 256) (w : AI) (hst : St w [A.mb, A.ub, A.rb] [(A.mb, J (cMm A acc m) 134), (A.ub, J (cU m.u) 172), (A.rb, J (List.map Z m.ram ++ A.rs) 5)] w) : aG prog 404 [P_ A.mb, .int .u16 a, .int .u8 x] w [A.mb, A.ub, A.rb] (fun v H => v = .tuple #[] ∧ H = [(A.mb, J (cMm A acc (nH a x m)) 134), (A.ub, J (cU (nH a x m).u) 172), (A.rb, J (List.map Z (nH a x m).ram ++ A.rs) 5)]) := by
 have hl9 := h.lRam
 refine cE func404 hst ?_
 refine ZAm ?_
 rcases hc9 : clockB m.bk with _ | p
 ·refine ZBn ?_
  refine Kx ?_
  refine Mu ?_
  refine rB ?_
  refine ZBy ?_
  rcases hat9 : atB_ a m.bk with _ | n
  ·refine ZBn ?_
   refine Kx ?_
   refine Ut ?_
   rw [hat9]
   refine rB ?_
   refine ZA7 ?_
   exact EN aJ ⟨U, by unfold nH; rw [hc9]; dsimp only; rw [hat9]⟩
  refine ZBn ?_
  refine Kx ?_
  refine Ut ?_
  rw [hat9]
  refine bA ?_
  refine iX ?_
  refine aI ?_
  have hn9 := D7 a hat9
  refine W (aX U U (bN (v := .slice (Q_ A.rb) m.ram.length A.rc) aE (get_mid (m := m) h.ln (j := 15) U))) U (ZAm ?_)
  refine RY (eB n.toNat U U U I I) U (W (bF (l' := List.map Z (m.ram.set n.toNat x) ++ A.rs) 2 U U U U U U (by rw [bQ, eD, az]; omega) (by rw [cg, mD (by rw [eD, az]; omega)]; exact aD (· ++ A.rs) (vG .u8 I _))) U ?_)
  refine dE ?_
  refine ZBE ?_
  exact EN aJ ⟨U, by unfold nH; rw [hc9]; dsimp only; rw [hat9]; dsimp only; rw [aH2]⟩
 refine ZBn ?_
 refine Kx ?_
 refine Mu ?_
 refine bA ?_
 refine iX ?_
 refine bZ ?_
 refine W (bX U U U (fun w hw => rowM_ck (m := m) (acc := acc) (aH (b := A.mb) aE w hw))) U (ZAm ?_)
 refine aP K_ (aS (aPK m.ck h.ck p x hx)) ?_
 refine ZA7 ?_
 refine W (bF (l' := cMm A acc { m with ck := writeCk p x m.ck }) 0 U U U U U U mE (putM_ck _)) U (iI ?_)
 exact EN aJ ⟨U, by unfold nH; rw [hc9]⟩
def aLL (A : Ad) (acc : AH) (m : Mm) (h : m.Wf) (a x : Int) (ha : 65280 ≤ a ∧ a < 65536) (hx : 0 ≤ x ∧ x < 256) (w : AI) (hst : St w [A.mb] [(A.mb, J (cMm A acc m) 134)] w) : aG prog 405 [P_ A.mb, .int .u16 a, .int .u8 x] w [A.mb] (fun v H => v = .tuple #[] ∧ H = [(A.mb, J (cMm A acc (setDeviceM a x m)) 134)]) := by
 have hP : dY ({ m with pd := qN x m.pd } : Mm) := ⟨h.ln.bd, h.ln.work, h.ln.high⟩
 refine cE func405 hst ?_
 refine ZA7 ?_
 refine fB ?_
 refine bZ ?_
 refine KC (fun q0 z0 => ?_) (fun q0 z0 => ?_)
 ·refine iG ?_
  refine W (bX U U U (fun w hw => Xw (m := m) (acc := acc) (aH (b := A.mb) aE w hw))) U (ZBE ?_)
  refine aP K_ (aS (aOM m.pd x)) ?_
  refine aI ?_
  refine W (bF (l' := cMm A acc { m with pd := qN x m.pd }) 0 U U U U U U mE (aCV _)) U (dE ?_)
  refine ZBn ?_
  refine RX (eO (F := []) (A := [(A.mb, J (cMm A acc { m with pd := qN x m.pd }) 134)]) (G := []) (R := fun v H => v = .tuple #[] ∧ H = [(A.mb, J (cMm A acc (askM 16 (xB m.pd (qN x m.pd)) { m with pd := qN x m.pd })) 134)]) K_ U (fun w hw _ => ask_fnM A acc { m with pd := qN x m.pd } hP 16 (xB m.pd (qN x m.pd)) w hw)) U (jT ?_)
  exact lW
 refine aI ?_
 refine KC (fun q1 z1 => ?_) (fun q1 z1 => ?_)
 ·refine aI ?_
  refine W (bX U U U (fun w hw => D8 (m := m) (acc := acc) (aH (b := A.mb) aE w hw))) U (ZBE ?_)
  refine nT ?_
  refine ZBE ?_
  refine aP K_ (aS (aL3 m.pt h.pt _ x hx)) ?_
  refine ZA7 ?_
  refine W (bF (l' := cMm A acc { m with pt := writePt (a - 65281) x m.pt }) 0 U U U U U U mE (aFm _)) U (dE ?_)
  exact lW
 refine ZBy ?_
 refine KL (fun q2 z2 => ?_) (fun q2 z2 => ?_)
 ·refine ZBn ?_
  refine KC (fun q3 z3 => ?_) (fun q3 z3 => ?_)
  ·refine aI ?_
   refine W (bX U U U (fun w hw => Yw (m := m) (acc := acc) (aH (b := A.mb) aE w hw))) U (ZBE ?_)
   refine nT ?_
   refine ZBE ?_
   refine aP K_ (aS (aNa m.tm h.tm _ x hx)) ?_
   refine ZA7 ?_
   refine W (bF (l' := cMm A acc { m with tm := writeTm (a - 65284) x m.tm }) 0 U U U U U U mE (aCz _)) U (dE ?_)
   exact lW
  refine aI ?_
  refine KC (fun q4 z4 => ?_) (fun q4 z4 => ?_)
  ·refine ZA7 ?_
   refine RW (v := (.int .u8 (aQ .u8 x 31))) (cM U U) U U (ZA7 ?_)
   refine W (bF (l' := cMm A acc { m with flags := aQ .u8 x 31 }) 0 U U U U U U mE (Jv h.ln _)) U (dE ?_)
   exact lW
  refine ZBy ?_
  refine KL (fun q5 z5 => ?_) (fun q5 z5 => ?_)
  ·refine ZBn ?_
   refine KC (fun q6 z6 => ?_) (fun q6 z6 => ?_)
   ·refine aI ?_
    refine W (bX U U Ox (fun w hw => rowM_bd (m := m) (acc := acc) (aH (b := A.mb) aE w hw))) U (ZBE ?_)
    refine nT ?_
    refine ZBE ?_
    refine aP K_ (aS (aEe m.bd h.bd _ x hx)) ?_
    refine ZA7 ?_
    refine W (bF (l' := cMm A acc { m with bd := writeBd (a - 65296) x m.bd }) 0 U U U aCg (ones_cBd _) U O5 (putM_bd h.ln (h.bd.write (a - 65296) hx).ln)) U (dE ?_)
    exact lW
   refine aI ?_
   refine KC (fun q7 z7 => ?_) (fun q7 z7 => ?_)
   ·refine aI ?_
    refine W (bX U U U (fun w hw => rowM_cp (m := m) (acc := acc) (aH (b := A.mb) aE w hw))) U (ZBE ?_)
    refine aP K_ (aS (Nz m.cp x)) ?_
    refine ZA7 ?_
    refine W (bF (l' := cMm A acc { m with cp := Fa x }) 0 U U U U U U mE (Lg _)) U (dE ?_)
    exact lW
   refine aI ?_
   refine KC (fun q8 z8 => ?_) (fun q8 z8 => ?_)
   ·refine aI ?_
    refine W (bF (l' := cMm A acc { m with lets := x }) 0 U U U U U U mE (Lb h.ln _)) U (dE ?_)
    exact lW
   refine aI ?_
   refine KC (fun q9 z9 => ?_) (fun q9 z9 => ?_)
   ·refine ZA7 ?_
    refine RW (nA U U) U qZ (ZA7 ?_)
    refine RY (eG (a - 65408).toNat U U U I I) U (W (bF (l' := cMm A acc { m with high := m.high.set (a - 65408).toNat x }) 0 U U U U U U Tj (putM_high h.ln I _)) U (dE ?_))
    exact lW
   exact lW
  refine fJ ?_
  refine KC (fun q6 z6 => ?_) (fun q6 z6 => ?_)
  ·refine aI ?_
   refine W (bX U U U (fun w hw => rowM_cp (m := m) (acc := acc) (aH (b := A.mb) aE w hw))) U (ZBE ?_)
   refine aP K_ (aS (Nz m.cp x)) ?_
   refine ZA7 ?_
   refine W (bF (l' := cMm A acc { m with cp := Fa x }) 0 U U U U U U mE (Lg _)) U (dE ?_)
   exact lW
  refine aI ?_
  refine KC (fun q7 z7 => ?_) (fun q7 z7 => ?_)
  ·refine aI ?_
   refine W (bF (l' := cMm A acc { m with lets := x }) 0 U U U U U U mE (Lb h.ln _)) U (dE ?_)
   exact lW
  refine aI ?_
  exact ZBa
 refine fJ ?_
 refine KC (fun q3 z3 => ?_) (fun q3 z3 => ?_)
 ·refine ZA7 ?_
  refine RW (v := (.int .u8 (aQ .u8 x 31))) (cM U U) U U (ZA7 ?_)
  refine W (bF (l' := cMm A acc { m with flags := aQ .u8 x 31 }) 0 U U U U U U mE (Jv h.ln _)) U (dE ?_)
  exact lW
 refine ZBy ?_
 refine KL (fun q4 z4 => ?_) (fun q4 z4 => ?_)
 ·refine ZBn ?_
  refine KC (fun q5 z5 => ?_) (fun q5 z5 => ?_)
  ·refine aI ?_
   refine W (bX U U Ox (fun w hw => rowM_bd (m := m) (acc := acc) (aH (b := A.mb) aE w hw))) U (ZBE ?_)
   refine nT ?_
   refine ZBE ?_
   refine aP K_ (aS (aEe m.bd h.bd _ x hx)) ?_
   refine ZA7 ?_
   refine W (bF (l' := cMm A acc { m with bd := writeBd (a - 65296) x m.bd }) 0 U U U aCg (ones_cBd _) U O5 (putM_bd h.ln (h.bd.write (a - 65296) hx).ln)) U (dE ?_)
   exact lW
  refine aI ?_
  refine KC (fun q6 z6 => ?_) (fun q6 z6 => ?_)
  ·refine aI ?_
   refine W (bX U U U (fun w hw => rowM_cp (m := m) (acc := acc) (aH (b := A.mb) aE w hw))) U (ZBE ?_)
   refine aP K_ (aS (Nz m.cp x)) ?_
   refine ZA7 ?_
   refine W (bF (l' := cMm A acc { m with cp := Fa x }) 0 U U U U U U mE (Lg _)) U (dE ?_)
   exact lW
  refine aI ?_
  refine KC (fun q7 z7 => ?_) (fun q7 z7 => ?_)
  ·refine aI ?_
   refine W (bF (l' := cMm A acc { m with lets := x }) 0 U U U U U U mE (Lb h.ln _)) U (dE ?_)
   exact lW
  refine aI ?_
  exact ZBa
 refine fJ ?_
 refine KC (fun q5 z5 => ?_) (fun q5 z5 => ?_)
 ·refine aI ?_
  refine W (bX U U U (fun w hw => rowM_cp (m := m) (acc := acc) (aH (b := A.mb) aE w hw))) U (ZBE ?_)
  refine aP K_ (aS (Nz m.cp x)) ?_
  refine ZA7 ?_
  refine W (bF (l' := cMm A acc { m with cp := Fa x }) 0 U U U U U U mE (Lg _)) U (dE ?_)
  exact lW
 refine aI ?_
 refine KC (fun q6 z6 => ?_) (fun q6 z6 => ?_)
 ·refine aI ?_
  refine W (bF (l' := cMm A acc { m with lets := x }) 0 U U U U U U mE (Lb h.ln _)) U (dE ?_)
  exact lW
 refine aI ?_
 refine KC (fun q7 z7 => ?_) (fun q7 z7 => ?_)
 ·refine ZA7 ?_
  refine RW (nA U U) U qZ (ZA7 ?_)
  refine RY (eG (a - 65408).toNat U U U I I) U (W (bF (l' := cMm A acc { m with high := m.high.set (a - 65408).toNat x }) 0 U U U U U U Tj (putM_high h.ln I _)) U (dE ?_))
  exact lW
 exact lW
def aON (A : Ad) (acc : AH) (m : Mm) (h : m.Wf) (a x : Int) (ha : 0 ≤ a ∧ a < 65536) (hx : 0 ≤ x ∧ x < 256) (w : AI) (hst : St w [A.mb, A.ub, A.rb] [(A.mb, J (cMm A acc m) 134), (A.ub, J (cU m.u) 172), (A.rb, J (List.map Z m.ram ++ A.rs) 5)] w) : aG prog 394 [P_ A.mb, .int .u16 a, .int .u8 x] w [A.mb, A.ub, A.rb] (fun v H => v = .tuple #[] ∧ H = [(A.mb, J (cMm A acc (pokeM a x m)) 134), (A.ub, J (cU (pokeM a x m).u) 172), (A.rb, J (List.map Z (pokeM a x m).ram ++ A.rs) 5)]) := by
 have hB1 : dY ({ m with bk := writeB a x m.bk } : Mm) := ⟨h.ln.bd, h.ln.work, h.ln.high⟩
 have hU1 : dY ({ m with u := kZ m.u a x } : Mm) := ⟨h.ln.bd, h.ln.work, h.ln.high⟩
 refine cE func394 hst ?_
 refine ZDG ?_
 refine KC (fun q0 z0 => ?_) (fun q0 z0 => ?_)
 ·refine iG ?_
  refine Kx ?_
  refine ZAm ?_
  refine aP K_ (aS (aI4 m.bk h.bk a x ha hx)) ?_
  refine aI ?_
  refine W (bF (l' := cMm A acc { m with bk := writeB a x m.bk }) 0 U U U U U U mE (aAS _)) U (rQ ?_)
  refine KC (fun q1 z1 => ?_) (fun q1 z1 => ?_)
  ·refine aI ?_
   refine W (bX U U U (fun w hw => rowM_ck (m := ({ m with bk := writeB a x m.bk } : Mm)) (acc := acc) (aH (b := A.mb) aE w hw))) U (aP K_ (aS (aQs m.ck h.ck)) ?_)
   refine ZA7 ?_
   refine W (bF (l' := cMm A acc { m with bk := writeB a x m.bk, ck := Ch m.ck }) 0 U U U U U U (by rw [cMm_len hB1]; exact ai rfl) (putM_ck _)) U (dE ?_)
   refine ZBE ?_
   exact EN aJ ⟨U, by rw [show pokeM a x m = { m with bk := writeB a x m.bk, ck := Ch m.ck } from by unfold pokeM; rw [ag I]; unfold wM; rw [ag q1]]⟩
  refine ZBE ?_
  exact EN aJ ⟨U, by rw [show pokeM a x m = { m with bk := writeB a x m.bk } from by unfold pokeM; rw [ag I]; unfold wM; rw [ae uX]]⟩
 refine ZA7 ?_
 refine aP K_ (aS (Yc a ha)) ?_
 refine ZAm ?_
 refine KC (fun q1 z1 => ?_) (fun q1 z1 => ?_)
 ·refine ZBn ?_
  refine W (aX U U (bN (v := P_ A.ub) aE (get_mid (m := m) h.ln (j := 14) U))) U (ZAm ?_)
  refine RX (eO (F := [(A.mb, J (cMm A acc m) 134)]) (A := [(A.ub, J (cU m.u) 172)]) (G := [(A.rb, J (List.map Z m.ram ++ A.rs) 5)]) (R := fun v H => v = .int .u8 (qO m.u a x) ∧ H = [(A.ub, J (cU (kZ m.u a x)) 172)]) K_ U (fun w hw _ => aQE A.ub m.u h.u.wf w hw a x ha hx)) U (Pj ?_)
  refine RW (v := (.int .u8 (aQ .u8 (qO m.u a x) 2))) (cM U U) U U (ZBE ?_)
  refine RX (eO (F := []) (A := [(A.mb, J (cMm A acc { m with u := kZ m.u a x }) 134)]) (G := [(A.ub, J (cU (kZ m.u a x)) 172), (A.rb, J (List.map Z m.ram ++ A.rs) 5)]) (R := fun v H => v = .tuple #[] ∧ H = [(A.mb, J (cMm A acc (askM 2 (aQ .u8 (qO m.u a x) 2 != 0) { m with u := kZ m.u a x })) 134)]) K_ U (fun w hw _ => ask_fnM A acc { m with u := kZ m.u a x } hU1 2 (aQ .u8 (qO m.u a x) 2 != 0) w hw)) U (Pj ?_)
  refine ZBE ?_
  exact EN aJ ⟨U, by rw [show pokeM a x m = askM 2 (aQ .u8 (qO m.u a x) 2 != 0) { m with u := kZ m.u a x } from by unfold pokeM; rw [ae I, ag q1]]; rw [Bj, Df]⟩
 refine aI ?_
 refine KC (fun q2 z2 => ?_) (fun q2 z2 => ?_)
 ·refine ZBy ?_
  refine RX (eO (F := []) (A := [(A.mb, J (cMm A acc m) 134), (A.ub, J (cU m.u) 172), (A.rb, J (List.map Z m.ram ++ A.rs) 5)]) (G := []) (R := fun v H => v = .tuple #[] ∧ H = [(A.mb, J (cMm A acc (nH a x m)) 134), (A.ub, J (cU (nH a x m).u) 172), (A.rb, J (List.map Z (nH a x m).ram ++ A.rs) 5)]) K_ U (uG (aPb A acc m h a x ha hx))) U (Pj ?_)
  refine ZBE ?_
  exact EN aJ ⟨U, by rw [show pokeM a x m = nH a x m from by unfold pokeM; rw [ae I, ae uX, ag I]]⟩
 refine aI ?_
 refine KC (fun q3 z3 => ?_) (fun q3 z3 => ?_)
 ·refine ZA7 ?_
  refine qD ?_
  refine ZA7 ?_
  refine RY (eG (a % 8192).toNat U U U I I) U (W (bF (l' := cMm A acc { m with work := m.work.set (a % 8192).toNat x }) 0 U U U U U U Tj (aMa h.ln I _)) U (dE ?_))
  refine ZBE ?_
  exact EN aJ ⟨U, by rw [show pokeM a x m = { m with work := m.work.set (a % 8192).toNat x } from by unfold pokeM; rw [ae I, ae uX, ae I, ag I]]⟩
 refine aI ?_
 refine KC (fun q4 z4 => ?_) (fun q4 z4 => ?_)
 ·refine ZBy ?_
  refine RX (eO (F := []) (A := [(A.mb, J (cMm A acc m) 134)]) (G := [(A.ub, J (cU m.u) 172), (A.rb, J (List.map Z m.ram ++ A.rs) 5)]) (R := fun v H => v = .tuple #[] ∧ H = [(A.mb, J (cMm A acc (setDeviceM a x m)) 134)]) K_ U (uG (aLL A acc m h a x I hx))) U (Pj ?_)
  refine ZBE ?_
  exact EN aJ ⟨U, by rw [show pokeM a x m = setDeviceM a x m from by unfold pokeM; rw [ae I, ae uX, ae I, ae I, ae I]]; rw [aHU, aOl]⟩
 refine ZBE ?_
 exact EN aJ ⟨U, by rw [show pokeM a x m = m from by unfold pokeM; rw [ae I, ae uX, ae I, ae I, ag I]]⟩
def note_fn (A : Ad) (m : Mm) (hl : dY m) (hm9 : m.acc.length + 1 ≤ 1000000) (va : AH) (Ga R : aF) (hV : bM 329 3 va m.acc.length (aN cAc m.acc) Ga) (k a x : Int) (w : AI) (hst : St w ((Ga ++ (A.mb, J (cMm A va m) 134) :: R).map (·.1)) (Ga ++ (A.mb, J (cMm A va m) 134) :: R) w) : aG prog 384 [.agg #[P_ A.mb], .int .i64 k, .int .u16 a, .int .u8 x] w ((Ga ++ (A.mb, J (cMm A va m) 134) :: R).map (·.1)) (fun v H => v = .int .u8 x ∧ ∃ va' Ga', bM 329 3 va' (m.acc.length + 1) (aN cAc (m.acc ++ [⟨k, a, x⟩])) Ga' ∧ H = Ga' ++ (A.mb, J (cMm A va' m) 134) :: R) := by
 obtain ⟨a9, c0, rfl⟩ := hV.slice
 refine cE func384 hst ?_
 refine ZAm ?_
 refine Ak fun b0 => ?_
 refine ZA7 ?_
 refine mZ [(b0, J [P_ A.mb] 318), (A.mb, J (cMm A (.slice a9 m.acc.length c0) m) 134)] [2, 3, 4, 5, 6, 7, 8, 9, 10, 11, 12] (.step true 0 (.step true 1 (.step true 2 (.step true 3 (.step true 4 (.step true 5 (.step true 6 (.step true 7 (.step true 8 (.step true 9 (.step true 10 (.step false 11 (.step false 12 (.step true 13 (.step true 14 (.step false 15 .done)))))))))))))))) U aO aO (fun x hx => uA) ?_
 refine aI ?_
 refine DL U U U (eN (v := .slice a9 m.acc.length c0) aE (aEB hl)) U (ZA7 ?_)
 refine ZEG ?_
 refine DX U (eQ (z := [.int .i64 0, .int .u16 0, .int .u8 0]) (l := cAc ⟨k, a, x⟩) (ps := [(0, .agg (cAc ⟨k, a, x⟩).toArray)]) U U U U U U) U aAC ?_
 rintro _ _ ⟨b1, rfl, rfl⟩
 refine DX U (mO (A := [(b1, _), (b0, _)]) (G := Ga) (R := (A.mb, _) :: R) (v := .slice a9 m.acc.length c0) (n := m.acc.length) (xs := aN cAc m.acc) (m := 1) (T := 329) (s := 3) (by_ := 16) (ys := cAc ⟨k, a, x⟩) U U U U hV (fun w hw => .row _ _ _ _ _ U (aH (b := b1) (.head _) w hw)) U I I) U (by intro _ _ _ hK; obtain ⟨G9, hV9, _, rfl⟩ := hK; exact (fun x hx => uA)) ?_
 rintro v0 _ ⟨G0, hV0, _, rfl⟩
 obtain ⟨b2, cp9, sp0, rfl, rfl, hc0, hle9, hm9⟩ := hV0.full I
 refine rT ?_
 refine DZ U (bF (l' := cMm A (.slice (Q_ b2) (m.acc.length + 1) cp9) m) 3 U U U U U U (by rw [cMm_len hl]; exact ai rfl) (H6 hl _)) U aW (jQ ?_)
 refine ZDG ?_
 exact EV U (.cons_cons _ (.cons _ (.cons _ aJ))) ⟨U, _, _, hV0.as U (wS _ _).symm, U⟩
def seen_fn (A : Ad) (acc : AH) (m : Mm) (h : m.Wf) (a : Int) (ha : 0 ≤ a ∧ a < 65536) (w : AI) (hst : St w [A.mb, A.ub] [(A.mb, J (cMm A acc m) 134), (A.ub, J (cU m.u) 172)] w) (hr : aK w A.rb 0 (m.ram.map (.int .u8))) (ho : aK w A.ob 0 (m.rom.map (.int .u8))) (hd : A.rb ∉ [A.mb, A.ub] ∧ A.ob ∉ [A.mb, A.ub]) : aG prog 385 [.agg #[P_ A.mb], .int .u16 a] w [A.mb, A.ub] (fun v H => v = .int .u8 (seenM a (cycleM m)) ∧ H = [(A.mb, J (cMm A acc (cycleM m)) 134), (A.ub, J (cU (cycleM m).u) 172)]) := by
 have hc := h.cycle
 have hr2 : aK w A.rb 0 ((cycleM m).ram.map (.int .u8)) := by rw [cycleM_ram]; exact hr
 have ho2 : aK w A.ob 0 ((cycleM m).rom.map (.int .u8)) := by rw [cycleM_rom]; exact ho
 refine cE func385 hst ?_
 refine ZAm ?_
 refine Ak fun b0 => ?_
 refine aI ?_
 refine RX (eO (F := [(b0, J [P_ A.mb] 318)]) (A := [(A.mb, J (cMm A acc m) 134), (A.ub, J (cU m.u) 172)]) (G := []) (R := fun v H => v = .tuple #[] ∧ H = [(A.mb, J (cMm A acc (cycleM m)) 134), (A.ub, J (cU (cycleM m).u) 172)]) K_ U (fun w hw hw2 => cycle_fn A acc m h w hw (cG hr hd.1 w hw2) (cG ho hd.2 w hw2) hd)) U (jT ?_)
 refine cL ?_
 refine W (bX U U U (fun w hw => rowM_cp (m := (cycleM m)) (acc := acc) (aH (b := A.mb) aE w hw))) U (ZBE ?_)
 refine aP K_ (aS (aBr (cycleM m).cp hc.cp a)) ?_
 refine ZA7 ?_
 refine KC (fun q0 z0 => ?_) (fun q0 z0 => ?_)
 ·refine ZBn ?_
  exact EV U (.cons _ aJ) ⟨aD Z (by unfold seenM; rw [ag (by simpa using q0)]), U⟩
 refine ZA7 ?_
 refine aP K_ (aS (Yc a ha)) ?_
 refine ZAm ?_
 refine KC (fun q1 z1 => ?_) (fun q1 z1 => ?_)
 ·refine aI ?_
  refine W (aX U U (bN (v := P_ A.ub) aE (get_mid (m := (cycleM m)) hc.ln (j := 14) U))) U (ZBE ?_)
  refine aP K_ (fun w hw => aNu A.ub (cycleM m).u hc.u.wf w (aH (b := A.ub) aE w hw) a ha) ?_
  refine ZA7 ?_
  exact EV U (.cons _ aJ) ⟨aD Z (by unfold seenM; rw [ae V4, ag q1]), U⟩
 refine aI ?_
 refine aP K_ (fun w hw => aBO A acc (cycleM m) hc w (aH (b := A.mb) aE w hw) (aH (b := A.ub) aE w hw) (cG hr2 hd.1 w hw) (cG ho2 hd.2 w hw) a ha) ?_
 refine ZA7 ?_
 exact EV U (.cons _ aJ) ⟨aD Z (by unfold seenM; rw [ae V4, ae uX]), U⟩
def aKz {n : Nat} (A : Ad) (hd : A.rb ∉ [A.mb, A.ub] ∧ A.ob ∉ [A.mb, A.ub]) (m : Mm) (hm : iQ (n + 1) m) (H : aF) (hr : tA A m H) (a : Int) (ha : 0 ≤ a ∧ a < 65536) (w : AI) (hst : St w (H.map (·.1)) H w) : aG prog 379 [.agg #[P_ A.mb], .int .u16 a] w (H.map (·.1)) (fun v H' => v = .int .u8 (fE.fetch a m).1 ∧ tA A (fE.fetch a m).2 H') := by
 obtain ⟨va, Ga, hV, rfl⟩ := hr
 have h := hm.wf
 have hroom := hm.room
 have hc := h.cycle
 refine Mh fun hVc hrc => ?_
 refine cE func379 hst ?_
 refine ZAm ?_
 refine Ak fun b0 => ?_
 refine ZA7 ?_
 refine ZCp ?_
 refine ZBE ?_
 refine gL U U U U E1 U U ?_
 refine X8 ?_
 refine jT ?_
 refine DX U (cX (F := [(b0, _)]) (A := Ga ++ (A.mb, J (cMm A va (cycleM m)) 134) :: [(A.ub, J (cU (cycleM m).u) 172), (A.rb, J (List.map Z m.ram ++ A.rs) 5), (A.ob, J (List.map Z m.rom ++ A.sp) 5)]) (R := fun v H => v = .int .u8 (seenM a (cycleM m)) ∧ ∃ va' Ga', bM 329 3 va' ((cycleM m).acc.length + 1) (aN cAc ((cycleM m).acc ++ [⟨3, a, (seenM a (cycleM m))⟩])) Ga' ∧ H = Ga' ++ (A.mb, J (cMm A va' (cycleM m)) 134) :: [(A.ub, J (cU (cycleM m).u) 172), (A.rb, J (List.map Z m.ram ++ A.rs) 5), (A.ob, J (List.map Z m.rom ++ A.sp) 5)]) K_ U (dJ (note_fn A (cycleM m) hc.ln hrc va Ga _ hVc 3 a (seenM a (cycleM m))))) U R4 ?_
 rintro _ _ ⟨_, ⟨rfl, va', Ga', hV', rfl⟩, rfl⟩
 refine ZA7 ?_
 exact EV U (.cons _ aJ) ⟨U, va', Ga', hV'.as Vn U, E8⟩
def aNF {n : Nat} (A : Ad) (hd : A.rb ∉ [A.mb, A.ub] ∧ A.ob ∉ [A.mb, A.ub]) (m : Mm) (hm : iQ (n + 1) m) (H : aF) (hr : tA A m H) (a : Int) (ha : 0 ≤ a ∧ a < 65536) (w : AI) (hst : St w (H.map (·.1)) H w) : aG prog 382 [.agg #[P_ A.mb], .int .u16 a] w (H.map (·.1)) (fun v H' => v = .int .u8 (fE.read a m).1 ∧ tA A (fE.read a m).2 H') := by
 obtain ⟨va, Ga, hV, rfl⟩ := hr
 have h := hm.wf
 have hroom := hm.room
 have hc := h.cycle
 refine Mh fun hVc hrc => ?_
 refine cE func382 hst ?_
 refine ZAm ?_
 refine Ak fun b0 => ?_
 refine ZA7 ?_
 refine ZCp ?_
 refine ZBE ?_
 refine gL U U U U E1 U U ?_
 refine X8 ?_
 refine jT ?_
 refine DX U (cX (F := [(b0, _)]) (A := Ga ++ (A.mb, J (cMm A va (cycleM m)) 134) :: [(A.ub, J (cU (cycleM m).u) 172), (A.rb, J (List.map Z m.ram ++ A.rs) 5), (A.ob, J (List.map Z m.rom ++ A.sp) 5)]) (R := fun v H => v = .int .u8 (seenM a (cycleM m)) ∧ ∃ va' Ga', bM 329 3 va' ((cycleM m).acc.length + 1) (aN cAc ((cycleM m).acc ++ [⟨1, a, (seenM a (cycleM m))⟩])) Ga' ∧ H = Ga' ++ (A.mb, J (cMm A va' (cycleM m)) 134) :: [(A.ub, J (cU (cycleM m).u) 172), (A.rb, J (List.map Z m.ram ++ A.rs) 5), (A.ob, J (List.map Z m.rom ++ A.sp) 5)]) K_ U (dJ (note_fn A (cycleM m) hc.ln hrc va Ga _ hVc 1 a (seenM a (cycleM m))))) U R4 ?_
 rintro _ _ ⟨_, ⟨rfl, va', Ga', hV', rfl⟩, rfl⟩
 refine ZA7 ?_
 exact EV U (.cons _ aJ) ⟨U, va', Ga', hV'.as Vn U, E8⟩
def aMh {n : Nat} (A : Ad) (hd : A.rb ∉ [A.mb, A.ub] ∧ A.ob ∉ [A.mb, A.ub]) (m : Mm) (hm : iQ (n + 1) m) (H : aF) (hr : tA A m H) (w : AI) (hst : St w (H.map (·.1)) H w) : aG prog 380 [.agg #[P_ A.mb]] w (H.map (·.1)) (fun v H' => v = .tuple #[] ∧ tA A (fE.idle m) H') := by
 obtain ⟨va, Ga, hV, rfl⟩ := hr
 have h := hm.wf
 have hroom := hm.room
 have hc := h.cycle
 refine Mh fun hVc hrc => ?_
 refine cE func380 hst ?_
 refine ZAm ?_
 refine Ak fun b0 => ?_
 refine ZA9 ?_
 refine jT ?_
 refine ZAm ?_
 refine W (bX U U U Wq) U (RX (cX (F := [(b0, _)]) (A := Ga ++ (A.mb, J (cMm A va (cycleM m)) 134) :: [(A.ub, J (cU (cycleM m).u) 172), (A.rb, J (List.map Z m.ram ++ A.rs) 5), (A.ob, J (List.map Z m.rom ++ A.sp) 5)]) (R := fun v H => v = .int .u8 0 ∧ ∃ va' Ga', bM 329 3 va' ((cycleM m).acc.length + 1) (aN cAc ((cycleM m).acc ++ [⟨0, 0, 0⟩])) Ga' ∧ H = Ga' ++ (A.mb, J (cMm A va' (cycleM m)) 134) :: [(A.ub, J (cU (cycleM m).u) 172), (A.rb, J (List.map Z m.ram ++ A.rs) 5), (A.ob, J (List.map Z m.rom ++ A.sp) 5)]) K_ U (dJ (note_fn A (cycleM m) hc.ln hrc va Ga _ hVc 0 0 0))) U ?_)
 rintro _ _ ⟨_, ⟨rfl, va', Ga', hV', rfl⟩, rfl⟩
 refine ZBE ?_
 exact EN (.cons _ aJ) ⟨U, va', Ga', hV'.as Vn U, E8⟩
def aQd {n : Nat} (A : Ad) (hd : A.rb ∉ [A.mb, A.ub] ∧ A.ob ∉ [A.mb, A.ub]) (m : Mm) (hm : iQ n m) (H : aF) (hr : tA A m H) (w : AI) (hst : St w (H.map (·.1)) H w) : aG prog 381 [.agg #[P_ A.mb]] w (H.map (·.1)) (fun v H' => v = .int .u8 (fE.pend m) ∧ H' = H) := by
 obtain ⟨va, Ga, hV, rfl⟩ := hr
 have h := hm.wf
 refine cE func381 hst ?_
 refine ZAm ?_
 refine Ak fun b0 => ?_
 refine ZA7 ?_
 refine DR [6, 7, 8, 9, 10, 11] (bW [0, 2, 4, 6, 8, 10, 12, 14, 16, 18, 20, 22, 24, 26, 28]) ?_
 refine ZBn ?_
 refine DL U U U (eN (v := .int .u8 m.flags) aE (get_mid h.ln (j := 0) U)) U (ZBn ?_)
 refine DL U U U (eN (v := .int .u8 m.lets) aE (get_mid h.ln (j := 1) U)) U (DW (v := (.int .u8 (aQ .u8 m.flags m.lets))) U (cM U U) U U (DW (v := (.int .u8 (fE.pend m))) U (cM U U) U U (ZA7 ?_)))
 exact EV U (.cons _ aJ) ⟨U, U⟩
def aO6 {n : Nat} (A : Ad) (hd : A.rb ∉ [A.mb, A.ub] ∧ A.ob ∉ [A.mb, A.ub]) (m : Mm) (hm : iQ n m) (H : aF) (hr : tA A m H) (k : Int) (hk : 0 ≤ k ∧ k < 5) (w : AI) (hst : St w (H.map (·.1)) H w) : aG prog 378 [.agg #[P_ A.mb], .int .i64 k] w (H.map (·.1)) (fun v H' => v = .tuple #[] ∧ tA A (fE.ack k m) H') := by
 obtain ⟨va, Ga, hV, rfl⟩ := hr
 have h := hm.wf
 refine cE func378 hst ?_
 refine ZBE ?_
 refine kG (fun w hw => hw.perm bg) ?_
 refine ZCE ?_
 refine ZBE ?_
 refine Ak fun b0 => ?_
 refine ZBE ?_
 refine DR [6, 7] (bW [0, 2, 4, 6, 8, 10, 12, 14, 16, 18, 20, 22, 25]) ?_
 refine ZBn ?_
 refine DL U U U (eN (v := .int .u8 m.flags) aE (get_mid h.ln (j := 0) U)) U (ZBE ?_)
 refine DW (v := (.int .u8 (shl .u8 1 k))) U (iM U U hk.1) U U (DW (v := (.int .u8 (tF m.flags k))) U (zI U U) U (aD _ (W0 h.flags I)) (ZA7 ?_))
 refine DZ U (bF (l' := cMm A va { m with flags := tF m.flags k }) 1 U U U U U U mE (Jv h.ln _)) U aW (wN ?_)
 exact lC (fun _ _ => nK) (fun w hw => (hw.sub (.cons _ aJ)).perm (bg (l₁ := [(A.mb, _), (A.ub, _), (A.rb, _), (A.ob, _)]))) ⟨U, va, Ga, hV, U⟩
def aQy {n : Nat} (A : Ad) (hd : A.rb ∉ [A.mb, A.ub] ∧ A.ob ∉ [A.mb, A.ub]) (m : Mm) (hm : iQ (n + 1) m) (H : aF) (hr : tA A m H) (a x : Int) (ha : 0 ≤ a ∧ a < 65536) (hx : 0 ≤ x ∧ x < 256) (w : AI) (hst : St w (H.map (·.1)) H w) : aG prog 383 [.agg #[P_ A.mb], .int .u16 a, .int .u8 x] w (H.map (·.1)) (fun v H' => v = .tuple #[] ∧ tA A (fE.write a x m) H') := by
 obtain ⟨va, Ga, hV, rfl⟩ := hr
 have h := hm.wf
 have hroom := hm.room
 have hc := h.cycle
 refine Mh fun hVc hrc => ?_
 refine cE func383 hst ?_
 refine ZAm ?_
 refine Ak fun b0 => ?_
 refine ZA9 ?_
 refine jT ?_
 refine ZA7 ?_
 refine kG (L' := (b0, J [P_ A.mb] 318) :: (Ga ++ [(A.mb, J (cMm A va (cycleM m)) 134), (A.ub, J (cU (cycleM m).u) 172), (A.rb, J (List.map Z (cycleM m).ram ++ A.rs) 5), (A.ob, J (List.map Z (cycleM m).rom ++ A.sp) 5)])) (fun _ h => h.as (by rw [cycleM_ram, cycleM_rom])) ?_
 refine aI ?_
 refine W (bX U U U (fun w hw => rowM_cp (m := (cycleM m)) (acc := va) (aH (b := A.mb) aE w hw))) U (ZBE ?_)
 refine aP K_ (aS (aBr (cycleM m).cp hc.cp a)) ?_
 refine ZBE ?_
 refine KC (fun q0 z0 => ?_) (fun q0 z0 => ?_)
 ·refine ZBn ?_
  refine RX (eO (F := (b0, _) :: Ga) (A := [(A.mb, J (cMm A va (cycleM m)) 134), (A.ub, J (cU (cycleM m).u) 172), (A.rb, J (List.map Z (cycleM m).ram ++ A.rs) 5)]) (G := [(A.ob, J (List.map Z (cycleM m).rom ++ A.sp) 5)]) (R := fun v H => v = .tuple #[] ∧ H = [(A.mb, J (cMm A va (pokeM a x (cycleM m))) 134), (A.ub, J (cU (pokeM a x (cycleM m)).u) 172), (A.rb, J (List.map Z (pokeM a x (cycleM m)).ram ++ A.rs) 5)]) K_ U (uG (aON A va (cycleM m) hc a x ha hx))) U (jT ?_)
  refine ZAm ?_
  refine W (bX U U U Wq) U (ZAm ?_)
  have hVs : bM 329 3 va (pokeM a x (cycleM m)).acc.length (aN cAc (pokeM a x (cycleM m)).acc) Ga := by rw [Nj, cycleM_acc]; exact hV
  have hrs : (pokeM a x (cycleM m)).acc.length + 1 ≤ 1000000 := by rw [Nj, cycleM_acc]; omega
  refine RX (cX (F := [(b0, _)]) (A := Ga ++ (A.mb, J (cMm A va (pokeM a x (cycleM m))) 134) :: [(A.ub, J (cU (pokeM a x (cycleM m)).u) 172), (A.rb, J (List.map Z (pokeM a x (cycleM m)).ram ++ A.rs) 5), (A.ob, J (List.map Z (cycleM m).rom ++ A.sp) 5)]) (R := fun v H => v = .int .u8 x ∧ ∃ va' Ga', bM 329 3 va' ((pokeM a x (cycleM m)).acc.length + 1) (aN cAc ((pokeM a x (cycleM m)).acc ++ [⟨2, a, x⟩])) Ga' ∧ H = Ga' ++ (A.mb, J (cMm A va' (pokeM a x (cycleM m))) 134) :: [(A.ub, J (cU (pokeM a x (cycleM m)).u) 172), (A.rb, J (List.map Z (pokeM a x (cycleM m)).ram ++ A.rs) 5), (A.ob, J (List.map Z (cycleM m).rom ++ A.sp) 5)]) K_ U (dJ (note_fn A (pokeM a x (cycleM m)) (hc.poke a hx).ln hrs va Ga _ hVs 2 a x))) U ?_
  rintro _ _ ⟨_, ⟨rfl, va', Ga', hV', rfl⟩, rfl⟩
  refine ZBE ?_
  have e9 : (if letsCp (cycleM m).cp a = true then pokeM a x (cycleM m) else (cycleM m)) = (pokeM a x (cycleM m)) := ag q0
  exact EN (.cons _ aJ) ⟨U, va', Ga', aFb, by unfold fE; dsimp only; rw [e9]; show _ = _ ++ [_, _, _, (A.ob, J (List.map Z (pokeM a x (cycleM m)).rom ++ A.sp) 5)]; rw [aIV]; rfl⟩
 refine ZAm ?_
 refine W (bX U U U Wq) U (ZAm ?_)
 have hVs : bM 329 3 va (cycleM m).acc.length (aN cAc (cycleM m).acc) Ga := by rw [cycleM_acc]; exact hV
 have hrs : (cycleM m).acc.length + 1 ≤ 1000000 := by rw [cycleM_acc]; omega
 refine RX (cX (F := [(b0, _)]) (A := Ga ++ (A.mb, J (cMm A va (cycleM m)) 134) :: [(A.ub, J (cU (cycleM m).u) 172), (A.rb, J (List.map Z (cycleM m).ram ++ A.rs) 5), (A.ob, J (List.map Z (cycleM m).rom ++ A.sp) 5)]) (R := fun v H => v = .int .u8 x ∧ ∃ va' Ga', bM 329 3 va' ((cycleM m).acc.length + 1) (aN cAc ((cycleM m).acc ++ [⟨2, a, x⟩])) Ga' ∧ H = Ga' ++ (A.mb, J (cMm A va' (cycleM m)) 134) :: [(A.ub, J (cU (cycleM m).u) 172), (A.rb, J (List.map Z (cycleM m).ram ++ A.rs) 5), (A.ob, J (List.map Z (cycleM m).rom ++ A.sp) 5)]) K_ U (dJ (note_fn A (cycleM m) hc.ln hrs va Ga _ hVs 2 a x))) U ?_
 rintro _ _ ⟨_, ⟨rfl, va', Ga', hV', rfl⟩, rfl⟩
 refine ZBE ?_
 have e9 : (if letsCp (cycleM m).cp a = true then pokeM a x (cycleM m) else (cycleM m)) = (cycleM m) := ae (by rw [q0]; decide)
 exact EN (.cons _ aJ) ⟨U, va', Ga', aFb, by unfold fE; dsimp only; rw [e9]; rfl⟩
def lN (rb : Nat) (n : Int) (w : AI) : aG prog 309 [P_ rb, .int .i64 n] w [] (V_ (kC rb n)) := by
 refine aT func309 ?_
 refine ZBn ?_
 refine DR [] (bW [0, 2, 4, 6, 8, 10, 12, 14, 16, 18, 20, 22, 24, 26, 28, 30, 32, 34, 36, 38, 40, 42, 45, 47]) ?_
 refine K5 ?_
 refine DY U (Ex (l := [.pointer (some ⟨rb, 2, none⟩), .pointer (some ⟨rb, 3, none⟩), .pointer (some ⟨rb, 4, none⟩), .pointer (some ⟨rb, 5, none⟩), .pointer (some ⟨rb, 6, none⟩), .pointer (some ⟨rb, 7, none⟩), .pointer none, P_ rb]) (z := [.pointer none, .pointer none, .pointer none, .pointer none, .pointer none, .pointer none, .pointer none, .pointer none]) (ps := [(0, .pointer (some ⟨rb, 2, none⟩)), (1, .pointer (some ⟨rb, 3, none⟩)), (2, .pointer (some ⟨rb, 4, none⟩)), (3, .pointer (some ⟨rb, 5, none⟩)), (4, .pointer (some ⟨rb, 6, none⟩)), (5, .pointer (some ⟨rb, 7, none⟩)), (6, .pointer none), (7, P_ rb)]) U aO U aO) U (DX U (gG U) U aW (ZBN fun b0 => ?_))
 refine DZ U iB U aW (aI ?_)
 refine KL (fun q0 z0 => ?_) (fun q0 z0 => ?_)
 ·refine cL ?_
  exact E0 U ⟨U, (by unfold kC; rw [ag I])⟩
 refine ZBy ?_
 refine KC (fun q1 z1 => ?_) (fun q1 z1 => ?_)
 ·refine ZBn ?_
  exact E0 U ⟨U, (by unfold kC; rw [ag I])⟩
 refine ZAm ?_
 rcases (show n = 0 ∨ n = 1 ∨ n = 2 ∨ n = 3 ∨ n = 4 ∨ n = 5 ∨ n = 6 ∨ n = 7 by omega) with rfl | rfl | rfl | rfl | rfl | rfl | rfl | rfl
 ·refine ZAm ?_
  exact RY (eG 0 U U U U M) U pI
 ·refine ZAm ?_
  exact RY (eG 1 U U U U M) U pI
 ·refine ZAm ?_
  exact RY (eG 2 U U U U M) U pI
 ·refine ZAm ?_
  exact RY (eG 3 U U U U M) U pI
 ·refine ZAm ?_
  exact RY (eG 4 U U U U M) U pI
 ·refine ZAm ?_
  exact RY (eG 5 U U U U M) U pI
 ·refine ZAm ?_
  exact RY (eG 6 U U U U M) U pI
 refine ZAm ?_
 exact RY (eG 7 U U U U M) U pI
def aGz (r : CR) (n : Int) (w : AI) : aG prog 284 [.agg (cR r).toArray, .int .i64 n] w [] (fun v H => H = [] ∧ ∃ k : Int, v = .tuple #[.int .u8 (yX r n), .int .i64 k]) := by
 refine aT func284 ?_
 refine Ka ?_
 refine ZBN fun b0 => ?_
 refine ZBn ?_
 rcases aCd n with rfl | rfl | rfl | rfl | rfl | rfl | rfl | hno
 ·refine ZAm ?_
  refine aP K_ (aS (lN b0 0)) ?_
  rw [show kC b0 0 = Value.pointer (some ⟨b0, 2, none⟩) from rfl]
  exact Dh
 ·refine ZAm ?_
  refine aP K_ (aS (lN b0 1)) ?_
  rw [show kC b0 1 = Value.pointer (some ⟨b0, 3, none⟩) from rfl]
  exact Dh
 ·refine ZAm ?_
  refine aP K_ (aS (lN b0 2)) ?_
  rw [show kC b0 2 = Value.pointer (some ⟨b0, 4, none⟩) from rfl]
  exact Dh
 ·refine ZAm ?_
  refine aP K_ (aS (lN b0 3)) ?_
  rw [show kC b0 3 = Value.pointer (some ⟨b0, 5, none⟩) from rfl]
  exact Dh
 ·refine ZAm ?_
  refine aP K_ (aS (lN b0 4)) ?_
  rw [show kC b0 4 = Value.pointer (some ⟨b0, 6, none⟩) from rfl]
  exact Dh
 ·refine ZAm ?_
  refine aP K_ (aS (lN b0 5)) ?_
  rw [show kC b0 5 = Value.pointer (some ⟨b0, 7, none⟩) from rfl]
  exact Dh
 ·refine ZAm ?_
  refine aP K_ (aS (lN b0 7)) ?_
  rw [show kC b0 7 = P_ b0 from rfl]
  exact Dh
 refine ZAm ?_
 refine aP K_ (aS (lN b0 n)) ?_
 rw [O6 hno]
 refine lZ ?_
 exact aZ (fun _ _ => eY U U) ⟨U, _, by rw [aNE hno]⟩
def aNH (r : CR) (n x : Int) (w : AI) : aG prog 283 [.agg (cR r).toArray, .int .i64 n, .int .u8 x] w [] (fun v H => H = [] ∧ ∃ k : Int, v = .tuple #[.agg (cR (qT r n x)).toArray, .int .i64 k]) := by
 refine aT func283 ?_
 refine Ka ?_
 refine vP fun b0 b1 => ?_
 refine ZA7 ?_
 rcases aCd n with rfl | rfl | rfl | rfl | rfl | rfl | rfl | hno
 ·refine ZAm ?_
  refine aP K_ (aS (lN b0 0)) ?_
  rw [show kC b0 0 = Value.pointer (some ⟨b0, 2, none⟩) from rfl]
  refine lZ ?_
  refine iJ ?_
  refine uK ?_
  exact aZ (fun w hw => gK U U U (aH (b := b1) (l := cR (qT r 0 x)) aE w hw) U) ⟨U, _, U⟩
 ·refine ZAm ?_
  refine aP K_ (aS (lN b0 1)) ?_
  rw [show kC b0 1 = Value.pointer (some ⟨b0, 3, none⟩) from rfl]
  refine lZ ?_
  refine iJ ?_
  refine uK ?_
  exact aZ (fun w hw => gK U U U (aH (b := b1) (l := cR (qT r 1 x)) aE w hw) U) ⟨U, _, U⟩
 ·refine ZAm ?_
  refine aP K_ (aS (lN b0 2)) ?_
  rw [show kC b0 2 = Value.pointer (some ⟨b0, 4, none⟩) from rfl]
  refine lZ ?_
  refine iJ ?_
  refine uK ?_
  exact aZ (fun w hw => gK U U U (aH (b := b1) (l := cR (qT r 2 x)) aE w hw) U) ⟨U, _, U⟩
 ·refine ZAm ?_
  refine aP K_ (aS (lN b0 3)) ?_
  rw [show kC b0 3 = Value.pointer (some ⟨b0, 5, none⟩) from rfl]
  refine lZ ?_
  refine iJ ?_
  refine uK ?_
  exact aZ (fun w hw => gK U U U (aH (b := b1) (l := cR (qT r 3 x)) aE w hw) U) ⟨U, _, U⟩
 ·refine ZAm ?_
  refine aP K_ (aS (lN b0 4)) ?_
  rw [show kC b0 4 = Value.pointer (some ⟨b0, 6, none⟩) from rfl]
  refine lZ ?_
  refine iJ ?_
  refine uK ?_
  exact aZ (fun w hw => gK U U U (aH (b := b1) (l := cR (qT r 4 x)) aE w hw) U) ⟨U, _, U⟩
 ·refine ZAm ?_
  refine aP K_ (aS (lN b0 5)) ?_
  rw [show kC b0 5 = Value.pointer (some ⟨b0, 7, none⟩) from rfl]
  refine lZ ?_
  refine iJ ?_
  refine uK ?_
  exact aZ (fun w hw => gK U U U (aH (b := b1) (l := cR (qT r 5 x)) aE w hw) U) ⟨U, _, U⟩
 ·refine ZAm ?_
  refine aP K_ (aS (lN b0 7)) ?_
  rw [show kC b0 7 = P_ b0 from rfl]
  refine lZ ?_
  refine iJ ?_
  refine uK ?_
  exact aZ (fun w hw => gK U U U (aH (b := b1) (l := cR (qT r 7 x)) aE w hw) U) ⟨U, _, U⟩
 refine ZAm ?_
 refine aP K_ (aS (lN b0 n)) ?_
 rw [O6 hno]
 refine iG ?_
 refine RS ?_
 refine iJ ?_
 exact aZ (fun w hw => gK U U U (aH (b := b1) aE w hw) U) ⟨U, _, by rw [aPq hno]; rfl⟩
def Ae (rb : Nat) (n : Int) (hn : n = 0 ∨ n = 1 ∨ n = 2 ∨ n = 4) (w : AI) : aG prog 311 [P_ rb, .int .i64 n] w [] (V_ (.tuple #[.pointer (some ⟨rb, xK n, none⟩), .pointer (some ⟨rb, xO n, none⟩)])) := by
 refine aT func311 ?_
 refine ZDG ?_
 rcases hn with rfl | rfl | rfl | rfl
 ·refine cL ?_
  refine rU ?_
  refine aP K_ (aS (lN rb (2 * 0))) ?_
  rw [show kC rb (2 * 0) = Value.pointer (some ⟨rb, 2, none⟩) from rfl]
  refine ZAm ?_
  refine rU ?_
  refine hY ?_
  refine aP K_ (aS (lN rb (2 * 0 + 1))) ?_
  rw [show kC rb (2 * 0 + 1) = Value.pointer (some ⟨rb, 3, none⟩) from rfl]
  exact A5
 ·refine cL ?_
  refine rU ?_
  refine aP K_ (aS (lN rb (2 * 1))) ?_
  rw [show kC rb (2 * 1) = Value.pointer (some ⟨rb, 4, none⟩) from rfl]
  refine ZAm ?_
  refine rU ?_
  refine hY ?_
  refine aP K_ (aS (lN rb (2 * 1 + 1))) ?_
  rw [show kC rb (2 * 1 + 1) = Value.pointer (some ⟨rb, 5, none⟩) from rfl]
  exact A5
 ·refine cL ?_
  refine rU ?_
  refine aP K_ (aS (lN rb (2 * 2))) ?_
  rw [show kC rb (2 * 2) = Value.pointer (some ⟨rb, 6, none⟩) from rfl]
  refine ZAm ?_
  refine rU ?_
  refine hY ?_
  refine aP K_ (aS (lN rb (2 * 2 + 1))) ?_
  rw [show kC rb (2 * 2 + 1) = Value.pointer (some ⟨rb, 7, none⟩) from rfl]
  exact A5
 refine aI ?_
 refine Fu ?_
 refine cL ?_
 exact aZ (fun _ _ => eY U U) ⟨U, U⟩
def aGq (r : CR) (hr : r.Ok) (n : Int) (w : AI) : aG prog 294 [.agg (cR r).toArray, .int .i64 n] w [] (fun v H => H = [] ∧ ∃ k : Int, v = .tuple #[.int .u16 (dD r n), .int .i64 k]) := by
 have k1 := hr.a
 have k2 := hr.f
 have k3 := hr.b
 have k4 := hr.c
 have k5 := hr.d
 have k6 := hr.e
 have k7 := hr.h
 have k8 := hr.l
 have k9 := hr.sp
 refine aT func294 ?_
 refine Ka ?_
 refine ZBN fun b0 => ?_
 refine bZ ?_
 refine KL (fun q0 z0 => ?_) (fun q0 z0 => ?_)
 ·refine fJ ?_
  exact aZ (fun _ _ => eY U U) ⟨U, _, (by rw [aCR I])⟩
 refine ZBn ?_
 refine KC (fun q1 z1 => ?_) (fun q1 z1 => ?_)
 ·refine aI ?_
  exact aZ (fun _ _ => eY U U) ⟨U, _, (by rw [aCR I])⟩
 refine aI ?_
 refine KC (fun q2 z2 => ?_) (fun q2 z2 => ?_)
 ·refine bA ?_
  obtain rfl : n = 3 := by omega
  exact aZ (fun _ _ => eY U U) ⟨U, _, U⟩
 refine ZBn ?_
 refine RW (v := (.int .u8 (r.f / 16 * 16))) (cM U U) U (aD _ (aFG hr.f)) (ZBE ?_)
 refine pT ?_
 rcases (show n = 0 ∨ n = 1 ∨ n = 2 ∨ n = 4 by omega) with rfl | rfl | rfl | rfl
 ·refine ZAm ?_
  refine aP K_ (aS (Ae b0 0 M)) ?_
  rw [show xK 0 = 2 from rfl, show xO 0 = 3 from rfl]
  refine Pv ?_
  refine Sr ?_
  refine Iu ?_
  exact DW (v := (.int .u16 (r.b * 256 + r.c))) U (dM U U) U (aD _ (yS hr.b hr.c)) Sk
 ·refine ZAm ?_
  refine aP K_ (aS (Ae b0 1 M)) ?_
  rw [show xK 1 = 4 from rfl, show xO 1 = 5 from rfl]
  refine Pv ?_
  refine Sr ?_
  refine Iu ?_
  exact DW (v := (.int .u16 (r.d * 256 + r.e))) U (dM U U) U (aD _ (yS hr.d hr.e)) Sk
 ·refine ZAm ?_
  refine aP K_ (aS (Ae b0 2 M)) ?_
  rw [show xK 2 = 6 from rfl, show xO 2 = 7 from rfl]
  refine Pv ?_
  refine Sr ?_
  refine Iu ?_
  exact DW (v := (.int .u16 (r.h * 256 + r.l))) U (dM U U) U (aD _ (yS hr.h hr.l)) Sk
 refine ZAm ?_
 refine aP K_ (aS (Ae b0 4 M)) ?_
 rw [show xK 4 = 0 from rfl, show xO 4 = 1 from rfl]
 refine Pv ?_
 refine Sr ?_
 refine Iu ?_
 exact DW (v := (.int .u16 (r.a * 256 + r.f / 16 * 16))) U (dM U U) U (aD _ (yS hr.a I)) Sk
def aMe (r : CR) (n x : Int) (hx : 0 ≤ x ∧ x < 65536) (w : AI) : aG prog 293 [.agg (cR r).toArray, .int .i64 n, .int .u16 x] w [] (fun v H => H = [] ∧ ∃ k : Int, v = .tuple #[.agg (cR (iT r n x)).toArray, .int .i64 k]) := by
 refine aT func293 ?_
 refine Ka ?_
 refine vP fun b0 b1 => ?_
 refine bA ?_
 refine KL (fun q0 z0 => ?_) (fun q0 z0 => ?_)
 ·refine bA ?_
  refine RS ?_
  exact ZEA
 refine ZBn ?_
 refine KC (fun q1 z1 => ?_) (fun q1 z1 => ?_)
 ·refine ZAm ?_
  refine RS ?_
  exact ZEA
 refine aI ?_
 refine KC (fun q2 z2 => ?_) (fun q2 z2 => ?_)
 ·refine ZBy ?_
  refine iJ ?_
  refine uK ?_
  obtain rfl : n = 3 := by omega
  exact aZ (fun w hw => gK U U U (aH (b := b1) (l := cR (iT r 3 x)) aE w hw) U) ⟨U, _, U⟩
 refine aI ?_
 refine KC (fun q3 z3 => ?_) (fun q3 z3 => ?_)
 ·refine ZAm ?_
  refine RW (v := (.int .u16 (x / 16 * 16))) (zI U U) U (aD _ (aMr hx)) (ZA7 ?_)
  obtain rfl : n = 4 := by omega
  ·refine ZAm ?_
   refine aP K_ (aS (Ae b0 4 M)) ?_
   rw [show xK 4 = 0 from rfl, show xO 4 = 1 from rfl]
   refine iG ?_
   refine Mg ?_
   refine ZBE ?_
   refine RW (v := (.int .u8 (x % 256 / 16 * 16))) (gN U U U) U (aD _ ((nQ _).trans I)) (kS ?_)
   refine kL ?_
   refine uK ?_
   exact aZ (fun w hw => gK U U U (aH (b := b1) (l := cR (iT r 4 x)) aE w hw) U) ⟨U, _, U⟩
 refine ZAm ?_
 rcases (show n = 0 ∨ n = 1 ∨ n = 2 by omega) with rfl | rfl | rfl
 ·refine ZAm ?_
  refine aP K_ (aS (Ae b0 0 M)) ?_
  rw [show xK 0 = 2 from rfl, show xO 0 = 3 from rfl]
  refine iG ?_
  refine Mg ?_
  refine J9 ?_
  refine kS ?_
  refine kL ?_
  refine uK ?_
  exact aZ (fun w hw => gK U U U (aH (b := b1) (l := cR (iT r 0 x)) aE w hw) U) ⟨U, _, U⟩
 ·refine ZAm ?_
  refine aP K_ (aS (Ae b0 1 M)) ?_
  rw [show xK 1 = 4 from rfl, show xO 1 = 5 from rfl]
  refine iG ?_
  refine Mg ?_
  refine J9 ?_
  refine kS ?_
  refine kL ?_
  refine uK ?_
  exact aZ (fun w hw => gK U U U (aH (b := b1) (l := cR (iT r 1 x)) aE w hw) U) ⟨U, _, U⟩
 refine ZAm ?_
 refine aP K_ (aS (Ae b0 2 M)) ?_
 rw [show xK 2 = 6 from rfl, show xO 2 = 7 from rfl]
 refine iG ?_
 refine Mg ?_
 refine J9 ?_
 refine kS ?_
 refine kL ?_
 refine uK ?_
 exact aZ (fun w hw => gK U U U (aH (b := b1) (l := cR (iT r 2 x)) aE w hw) U) ⟨U, _, U⟩
def aH1 (r : CR) (hr : r.Ok) (n : Int) (w : AI) : aG prog 264 [.agg (cR r).toArray, .int .i64 n] w [] (V_ (.bool (Ev r n))) := by
 refine aT func264 ?_
 refine Ka ?_
 refine ZBN fun b0 => ?_
 refine jN ?_
 refine KC (fun q0 z0 => ?_) (fun q0 z0 => ?_)
 ·refine ZBE ?_
  refine pE true U q0 ?_
  refine ZBy ?_
  refine RW (v := (.int .u8 (aQ .u8 r.f 128))) U U U (RW (v := (.bool (zF r.f))) U U (aD _ (aCp hr.f)) (ZAm ?_))
  refine RY (Qo U U U) U (ZA7 ?_)
  exact E0 U ⟨U, (aD Value.bool (R7 I r))⟩
 refine ZBy ?_
 refine KC (fun q1 z1 => ?_) (fun q1 z1 => ?_)
 ·refine ZBy ?_
  refine RW (v := (.int .u8 (aQ .u8 r.f 128))) U U U (RW (v := (.bool (zF r.f))) U U (aD _ (aCp hr.f)) (ZAm ?_))
  refine RY (Qo U U U) U (ZA7 ?_)
  exact E0 U ⟨U, (aD Value.bool (R7 I r))⟩
 refine aI ?_
 refine KC (fun q2 z2 => ?_) (fun q2 z2 => ?_)
 ·refine ZBE ?_
  refine pE true U q2 ?_
  refine ZBy ?_
  refine RW (v := (.int .u8 (aQ .u8 r.f 16))) U U U (RW (v := (.bool (cF r.f))) U U (aD _ (Ve hr.f)) (ZAm ?_))
  refine RY (Qo U U U) U (ZA7 ?_)
  exact E0 U ⟨U, (aD Value.bool (aEo I r))⟩
 refine ZBy ?_
 refine KC (fun q3 z3 => ?_) (fun q3 z3 => ?_)
 ·refine ZBy ?_
  refine RW (v := (.int .u8 (aQ .u8 r.f 16))) U U U (RW (v := (.bool (cF r.f))) U U (aD _ (Ve hr.f)) (ZAm ?_))
  refine RY (Qo U U U) U (ZA7 ?_)
  exact E0 U ⟨U, (aD Value.bool (aEo I r))⟩
 refine bA ?_
 exact E0 U ⟨U, (aD Value.bool (aJJ I I I I r))⟩
def flagA_fn (x : Int) (b : Bool) (w : AI) : aG prog 291 [.int .u8 x, .bool b] w [] (V_ (.int .u8 (fg x b))) := by
 refine aT func291 ?_
 refine bZ ?_
 refine KC (fun q0 z0 => ?_) (fun q0 z0 => ?_)
 ·refine aI ?_
  exact E0 U ⟨U, (by rw [show b = true from q0]; rfl)⟩
 refine aI ?_
 exact E0 U ⟨U, (by rw [show b = false from q0]; rfl)⟩
def zero_fn (x : Int) (w : AI) : aG prog 290 [.int .u8 x] w [] (V_ (.int .u8 (fg 128 (x == 0)))) := by
 refine aT func290 ?_
 refine bA ?_
 refine aP K_ (aS (flagA_fn 128 _)) ?_
 exact fN
def aBB (b : Bool) (w : AI) : aG prog 310 [.bool b] w [] (V_ (.int .u8 (iS b))) := by
 refine aT func310 ?_
 refine ZDG ?_
 refine aP K_ (aS (flagA_fn 1 _)) ?_
 exact fN
def Pr (a b : Int) (c : Bool) (ha : 0 ≤ a ∧ a < 256) (hb : 0 ≤ b ∧ b < 256) (w : AI) : aG prog 285 [.int .u8 a, .int .u8 b, .bool c] w [] (V_ (.tuple #[.int .u8 (qK a b c), .int .u8 (Av a b c)])) := by
 have hc := Pc c
 refine aT func285 ?_
 refine bA ?_
 refine aP K_ (aS (aBB c)) ?_
 refine aI ?_
 refine rS ?_
 refine ZBE ?_
 refine rS ?_
 refine aI ?_
 refine Nv ?_
 refine sB ?_
 refine ZBE ?_
 refine sB ?_
 refine rS ?_
 refine ZBE ?_
 refine rS ?_
 refine Fw ?_
 refine oJ ?_
 refine nD ?_
 refine nD ?_
 refine hY ?_
 refine nD ?_
 refine hY ?_
 refine ZBE ?_
 refine aP K_ (aS (flagA_fn 16 _)) ?_
 refine pF ?_
 have e1 : ((a + b) % 256 + iS c) % 256 = qK a b c := by unfold qK; omega
 rw [e1, D9]
 exact aZ (fun _ _ => mQ U U) ⟨U, U⟩
def aAt (a b : Int) (c : Bool) (ha : 0 ≤ a ∧ a < 256) (hb : 0 ≤ b ∧ b < 256) (w : AI) : aG prog 286 [.int .u8 a, .int .u8 b, .bool c] w [] (V_ (.tuple #[.int .u8 (rG a b c), .int .u8 (sU a b c)])) := by
 have hc := Pc c
 refine aT func286 ?_
 refine bA ?_
 refine aP K_ (aS (aBB c)) ?_
 refine aI ?_
 refine RW (nA U U) U vQ (ZBE ?_)
 refine RW (nA U U) U vQ (aI ?_)
 refine ZEw ?_
 refine oJ ?_
 refine ZBE ?_
 refine sB ?_
 refine ZBE ?_
 refine sB ?_
 refine ZBE ?_
 refine rS ?_
 refine Fw ?_
 refine oJ ?_
 refine nD ?_
 refine nD ?_
 refine nD ?_
 refine hY ?_
 refine ZBE ?_
 refine aP K_ (aS (flagA_fn 16 _)) ?_
 refine pF ?_
 have e1 : ((a - b) % 256 - iS c) % 256 = rG a b c := by unfold rG; omega
 rw [e1, aAw]
 exact aZ (fun _ _ => mQ U U) ⟨U, U⟩
def aQl (a b : Int) (ha : 0 ≤ a ∧ a < 256) (hb : 0 ≤ b ∧ b < 256) (w : AI) : aG prog 287 [.int .u8 a, .int .u8 b] w [] (V_ (.tuple #[.int .u8 (aQ .u8 a b), .int .u8 (sZ 0 (aQ .u8 a b))])) := by
 refine aT func287 ?_
 refine bZ ?_
 refine RW (cM U U) U U (ZAm ?_)
 refine RW (cM U U) U U (ZEw ?_)
 refine pF ?_
 rw [aNi]
 exact aZ (fun _ _ => mQ U U) ⟨U, U⟩
def aPk (a b : Int) (ha : 0 ≤ a ∧ a < 256) (hb : 0 ≤ b ∧ b < 256) (w : AI) : aG prog 289 [.int .u8 a, .int .u8 b] w [] (V_ (.tuple #[.int .u8 (bL .u8 a b), .int .u8 (sZ 1 (bL .u8 a b))])) := by
 refine aT func289 ?_
 refine bZ ?_
 refine oJ ?_
 refine ZAm ?_
 refine oJ ?_
 refine ZEw ?_
 refine ZBy ?_
 rw [N9]
 exact aZ (fun _ _ => mQ U U) ⟨U, U⟩
def aIa (a b : Int) (ha : 0 ≤ a ∧ a < 256) (hb : 0 ≤ b ∧ b < 256) (w : AI) : aG prog 288 [.int .u8 a, .int .u8 b] w [] (V_ (.tuple #[.int .u8 (mK .u8 a b), .int .u8 (sZ 2 (mK .u8 a b))])) := by
 refine aT func288 ?_
 refine bZ ?_
 refine RW (Qc U U) U U (ZAm ?_)
 refine RW (Qc U U) U U (ZEw ?_)
 refine ZBy ?_
 rw [N9]
 exact aZ (fun _ _ => mQ U U) ⟨U, U⟩
def aNX (a f : Int) (ha : 0 ≤ a ∧ a < 256) (hf : 0 ≤ f ∧ f < 256) (w : AI) : aG prog 252 [.int .u8 a, .int .u8 f] w [] (V_ (.tuple #[.int .u8 (zP a), .int .u8 (Sc a f)])) := by
 refine aT func252 ?_
 refine bA ?_
 refine rS ?_
 refine aI ?_
 refine Nv ?_
 refine sB ?_
 refine Fw ?_
 refine oJ ?_
 refine ZBE ?_
 refine RW (cM U U) U F9 (pF ?_)
 rw [Wn, D9]
 exact aZ (fun _ _ => mQ U U) ⟨U, U⟩
def aJM (a f : Int) (ha : 0 ≤ a ∧ a < 256) (hf : 0 ≤ f ∧ f < 256) (w : AI) : aG prog 253 [.int .u8 a, .int .u8 f] w [] (V_ (.tuple #[.int .u8 (Am a), .int .u8 (Tu a f)])) := by
 refine aT func253 ?_
 refine bA ?_
 refine RW (nA U U) U vQ (aI ?_)
 refine ZEw ?_
 refine oJ ?_
 refine ZBE ?_
 refine sB ?_
 refine Fw ?_
 refine oJ ?_
 refine ZBE ?_
 refine RW (cM U U) U F9 (pF ?_)
 rw [Wn, aAw]
 exact aZ (fun _ _ => mQ U U) ⟨U, U⟩
def aOi (a b f : Int) (ha : 0 ≤ a ∧ a < 65536) (hb : 0 ≤ b ∧ b < 65536) (hf : 0 ≤ f ∧ f < 256) (w : AI) : aG prog 260 [.int .u16 a, .int .u16 b, .int .u8 f] w [] (V_ (.tuple #[.int .u16 (yR a b), .int .u8 (Hc a b f)])) := by
 refine aT func260 ?_
 refine bZ ?_
 refine RW (nL U U) U qZ (ZBE ?_)
 refine Dm ?_
 refine ZBE ?_
 refine RW (cM U U) U aEW (ZBE ?_)
 refine RW (cM U U) U aEW (RW (nL U U) U qZ (Fw ?_))
 refine oJ ?_
 refine nD ?_
 refine nD ?_
 refine hY ?_
 refine ZBE ?_
 refine aP K_ (aS (flagA_fn 16 _)) ?_
 refine pF ?_
 rw [aMv hf, aKR]
 exact aZ (fun _ _ => mQ U U) ⟨U, U⟩
def W4 (a e : Int) (ha : 0 ≤ a ∧ a < 65536) (he : 0 ≤ e ∧ e < 256) (w : AI) : aG prog 261 [.int .u16 a, .int .u8 e] w [] (V_ (.tuple #[.int .u16 (qS a e), .int .u8 (wQ a e)])) := by
 refine aT func261 ?_
 refine bA ?_
 refine RW (v := (.int .u8 (a % 256))) U U (aD _ (nQ _)) (aI ?_)
 refine RW (v := (.int .i8 (s8 e))) (gN U U U) U (aD _ (aIN he)) (RW (v := (.int .u16 (s8 e % 65536))) (gN U U U) U (aD _ (pR _)) (RW (nL U U) U qZ (ZBE ?_)))
 refine sB ?_
 refine ZBE ?_
 refine sB ?_
 refine rS ?_
 refine Fw ?_
 refine nD ?_
 refine nD ?_
 refine hY ?_
 refine ZBE ?_
 refine aP K_ (aS (flagA_fn 16 _)) ?_
 refine pF ?_
 have e1 : (a + s8 e % 65536) % 65536 = qS a e := by unfold qS; omega
 rw [e1, aLo, show a % 256 % 16 = a % 16 by omega]
 exact aZ (fun _ _ => mQ U U) ⟨U, U⟩
def aQK (n a f : Int) (ha : 0 ≤ a ∧ a < 256) (hf : 0 ≤ f ∧ f < 256) (w : AI) : aG prog 256 [.int .i64 n, .int .u8 a, .int .u8 f] w [] (V_ (.int .u8 (Uh n a f))) := by
 refine aT func256 ?_
 refine ZBn ?_
 have hs := aQO n ha
 refine ZA7 ?_
 refine RW (v := (.int .i64 (n % 8))) (cM U U) U (aD _ (aDn n)) (RW (v := (.int .u8 (a / 2 ^ (n % 8).toNat))) (iV U U I) U (aD _ (aIf I)) (RW (cM U U) U Fk (ZEw ?_)))
 refine oJ ?_
 refine ZBE ?_
 refine RW (cM U U) U F9 (oJ ?_)
 refine ZA7 ?_
 rw [Wn, aMj]
 exact E0 U ⟨U, U⟩
def aIp (a : Int) (ha : 0 ≤ a ∧ a < 256) (w : AI) : aG prog 292 [.int .u8 a, .int .i64 1] w [] (V_ (.int .u8 (a * 2 % 256 + a / 128))) := by
 refine aT func292 ?_
 refine ZDG ?_
 refine RW (v := (.int .u64 1)) U U U (RW (v := (.int .u64 1)) (cM U U) U (aD _ M) (aI ?_))
 refine RW (v := (.int .u8 (shl .u8 a 1))) (iM U U M) U U (ZAm ?_)
 refine RW (v := (.int .u64 7)) (nA U U) U (aD _ M) (RW (v := (.int .u8 (shr .u8 a 7))) (iV U U M) U U (oJ ?_))
 refine ZA7 ?_
 rw [aNn ha]
 exact E0 U ⟨U, U⟩
def aK0 (a : Int) (ha : 0 ≤ a ∧ a < 256) (w : AI) : aG prog 292 [.int .u8 a, .int .i64 4] w [] (V_ (.int .u8 (a % 16 * 16 + a / 16))) := by
 refine aT func292 ?_
 refine ZDG ?_
 refine RW (v := (.int .u64 4)) U U U (RW (v := (.int .u64 4)) (cM U U) U (aD _ M) (aI ?_))
 refine RW (v := (.int .u8 (shl .u8 a 4))) (iM U U M) U U (ZAm ?_)
 refine RW (v := (.int .u64 4)) (nA U U) U (aD _ M) (RW (v := (.int .u8 (shr .u8 a 4))) (iV U U M) U U (oJ ?_))
 refine ZA7 ?_
 rw [aMQ ha]
 exact E0 U ⟨U, U⟩
def aJQ (a f : Int) (ha : 0 ≤ a ∧ a < 256) (hf : 0 ≤ f ∧ f < 256) (w : AI) : aG prog 257 [.int .u8 a, .int .u8 f] w [] (V_ (.tuple #[.int .u8 (tI a f), .int .u8 (Pu a f)])) := by
 refine aT func257 ?_
 refine fJ ?_
 refine RW (v := (.int .u8 (aQ .u8 f 64))) U U U (RW (v := (.bool (nF f))) U U (aD _ (aMZ hf)) (ZBn ?_))
 refine RW (v := (.int .u8 (fg 16 (cF f)))) U U (aD _ (aEg hf)) (ZAm ?_)
 refine rR (σ := Unit) [6, 14, 15, 16, 17, 18, 19, 20, 21, 22, 23, 24, 25, 26, 27] (fun _ => [(6, .int .u8 (fg 6 (daaL a f)))]) (fun _ => []) (fun _ => True) ?_ ?_
 ·refine ZA7 ?_
  refine RW (v := (.int .u8 (aQ .u8 f 32))) U U U (RW (v := (.bool (hF f))) U U (aD _ (aKI hf)) (KL (fun q0 z0 => ?_) (fun q0 z0 => ?_)))
  ·refine fJ ?_
   refine RW (v := (.int .u8 6)) (dM U U) U (aD _ M) (ZAm ?_)
   exact ⟨(), trivial, .cons (aD Z Py) (.nil), bJ, fun _ h => h⟩
  refine ZAm ?_
  refine KL (fun q1 z1 => ?_) (fun q1 z1 => ?_)
  ·refine ZBE ?_
   refine sB ?_
   refine ZBy ?_
   refine KC (fun q2 z2 => ?_) (fun q2 z2 => ?_)
   ·refine ZAm ?_
    refine RW (v := (.int .u8 6)) (dM U U) U (aD _ M) (ZAm ?_)
    exact ⟨(), trivial, .cons (aD Z Py) (.nil), bJ, fun _ h => h⟩
   refine ZBE ?_
   exact ⟨(), trivial, .cons (aD Z Py) (.nil), bJ, fun _ h => h⟩
  refine bA ?_
  exact ⟨(), trivial, .cons (aD Z Py) (.nil), bJ, fun _ h => h⟩
 rintro _ y4 _
 refine rR (σ := Unit) [6, 28, 29, 30, 31, 32, 33, 34, 35, 36, 37, 38, 39, 8] (fun _ => [(6, .int .u8 (daaB a f)), (8, .int .u8 (fg 16 (daaC a f)))]) (fun _ => []) (fun _ => True) ?_ ?_
 ·refine ZA7 ?_
  refine RW (v := (.bool (cF f))) U U (aD _ (aIn _)) (KL (fun q0 z0 => ?_) (fun q0 z0 => ?_))
  ·refine fJ ?_
   exact T7
  refine ZAm ?_
  refine KL (fun q1 z1 => ?_) (fun q1 z1 => ?_)
  ·refine ZBn ?_
   refine KC (fun q2 z2 => ?_) (fun q2 z2 => ?_)
   ·refine ZA7 ?_
    exact T7
   refine ZBE ?_
   exact ⟨(), trivial, .cons (aD Z Yz) (.cons (aD Z Xc) (.nil)), bJ, fun _ h => h⟩
  refine ZDG ?_
  exact ⟨(), trivial, .cons (aD Z Yz) (.cons (aD Z Xc) (.nil)), bJ, fun _ h => h⟩
 rintro _ y6 _
 refine rR (σ := Unit) [4, 40, 41, 42, 43, 44, 45, 46] (fun _ => [(4, .int .u8 (tI a f))]) (fun _ => []) (fun _ => True) ?_ ?_
 ·refine ZBy ?_
  refine rS ?_
  refine aI ?_
  refine KC (fun q0 z0 => ?_) (fun q0 z0 => ?_)
  ·refine ZA7 ?_
   refine RW (nA U U) U vQ (ZAm ?_)
   exact ⟨(), trivial, .cons (aD Z (by unfold tI; simp_all)) (.nil), bJ, fun _ h => h⟩
  refine ZBE ?_
  exact ⟨(), trivial, .cons (aD Z (by unfold tI; simp_all)) (.nil), bJ, fun _ h => h⟩
 rintro _ y10 _
 refine ZBy ?_
 refine Nv ?_
 refine RW (cM U U) U A6 (oJ ?_)
 refine ZBE ?_
 refine pF ?_
 rw [aPs, aHH]
 exact aZ (fun _ _ => mQ U U) ⟨U, U⟩
def aA9 (k a f : Int) (ha : 0 ≤ a ∧ a < 256) (hf : 0 ≤ f ∧ f < 256) (w : AI) : aG prog 255 [.int .i64 k, .int .u8 a, .int .u8 f] w [] (V_ (.tuple #[.int .u8 (gU k a f), .int .u8 (mH k a f)])) := by
 have hb := Pc (cF f)
 refine aT func255 ?_
 refine bA ?_
 refine RW (v := (.int .u8 (fg 16 (cF f)))) U U (aD _ (aEg hf)) (RW (v := (.int .u8 (iS (cF f)))) (iV U U M) U (aD _ (aNl _)) (ZBn ?_))
 refine RW (iV U U M) U (qC 128 M M) (ZBE ?_)
 refine RW (cM U U) U Fk (fJ ?_)
 refine RW (v := (.int .i64 (k % 8))) (cM U U) U (aD _ (aDn k)) (aBT ?_)
 refine KC (fun q0 z0 => ?_) (fun q0 z0 => ?_)
 ·refine ZBy ?_
  refine aP K_ (aS (aIp a ha)) ?_
  refine ZDG ?_
  refine xL ?_
  refine pF ?_
  have hk : k % 8 = 0 := by omega
  have hr : gU k a f = a * 2 % 256 + a / 128 := by unfold gU; rw [hk]; rfl
  refine I0 fun ho => ?_
  have e9 : Value.tuple #[.int .u8 (a * 2 % 256 + a / 128), .int .u8 (fl ((a * 2 % 256 + a / 128) == 0) false false (a / 128 == 1))] = .tuple #[.int .u8 (gU k a f), .int .u8 (mH k a f)] := by unfold mH; rw [hr, ho]
  exact aZ (fun _ _ => mQ U U) ⟨U, e9⟩
 refine ZDG ?_
 refine KC (fun q1 z1 => ?_) (fun q1 z1 => ?_)
 ·refine ZBy ?_
  refine RW (iM U U M) U Zu (ZBE ?_)
  refine RW (v := (.int .u8 (a * 2 % 256 + iS (cF f)))) (dM U U) U (aD _ (aK1 ha _)) (ZDG ?_)
  refine xL ?_
  refine pF ?_
  have hk : k % 8 = 2 := by omega
  have hr : gU k a f = a * 2 % 256 + iS (cF f) := by unfold gU; rw [hk]; rfl
  refine I0 fun ho => ?_
  have e9 : Value.tuple #[.int .u8 (a * 2 % 256 + iS (cF f)), .int .u8 (fl ((a * 2 % 256 + iS (cF f)) == 0) false false (a / 128 == 1))] = .tuple #[.int .u8 (gU k a f), .int .u8 (mH k a f)] := by unfold mH; rw [hr, ho]
  exact aZ (fun _ _ => mQ U U) ⟨U, e9⟩
 refine ZDG ?_
 refine KC (fun q2 z2 => ?_) (fun q2 z2 => ?_)
 ·refine ZBy ?_
  refine RW (iM U U M) U Zu (ZDG ?_)
  refine xL ?_
  refine pF ?_
  have hk : k % 8 = 4 := by omega
  have hr : gU k a f = a * 2 % 256 := by unfold gU; rw [hk]; rfl
  refine I0 fun ho => ?_
  have e9 : Value.tuple #[.int .u8 (a * 2 % 256), .int .u8 (fl ((a * 2 % 256) == 0) false false (a / 128 == 1))] = .tuple #[.int .u8 (gU k a f), .int .u8 (mH k a f)] := by unfold mH; rw [hr, ho]
  exact aZ (fun _ _ => mQ U U) ⟨U, e9⟩
 refine ZDG ?_
 refine KC (fun q3 z3 => ?_) (fun q3 z3 => ?_)
 ·refine ZBy ?_
  refine aP K_ (aS (aK0 a ha)) ?_
  refine bA ?_
  refine xL ?_
  refine pF ?_
  have hk : k % 8 = 6 := by omega
  have hr : gU k a f = a % 16 * 16 + a / 16 := by unfold gU; rw [hk]; rfl
  have ho : turnO k a = ((0 : Int) == 1) := by unfold turnO; rw [hk]; rfl
  rw [x16 (x := 0) I, or_zc]
  have e9 : Value.tuple #[.int .u8 (a % 16 * 16 + a / 16), .int .u8 (fl ((a % 16 * 16 + a / 16) == 0) false false ((0 : Int) == 1))] = .tuple #[.int .u8 (gU k a f), .int .u8 (mH k a f)] := by unfold mH; rw [hr, ho]
  exact aZ (fun _ _ => mQ U U) ⟨U, e9⟩
 refine ZDG ?_
 refine KC (fun q4 z4 => ?_) (fun q4 z4 => ?_)
 ·refine bA ?_
  refine Io ?_
  refine ZBE ?_
  refine RW (iM U U M) U Y8 (RW (v := (.int .u8 (a / 2 + a % 2 * 128))) (dM U U) U (aD _ (aFO ha)) (bZ ?_))
  refine xL ?_
  refine pF ?_
  have hk : k % 8 = 1 := by omega
  have hr : gU k a f = a / 2 + a % 2 * 128 := by unfold gU; rw [hk]; rfl
  refine Qu fun ho => ?_
  have e9 : Value.tuple #[.int .u8 (a / 2 + a % 2 * 128), .int .u8 (fl ((a / 2 + a % 2 * 128) == 0) false false (a % 2 == 1))] = .tuple #[.int .u8 (gU k a f), .int .u8 (mH k a f)] := by unfold mH; rw [hr, ho]
  exact aZ (fun _ _ => mQ U U) ⟨U, e9⟩
 refine ZDG ?_
 refine KC (fun q5 z5 => ?_) (fun q5 z5 => ?_)
 ·refine ZBy ?_
  refine Io ?_
  refine ZBE ?_
  refine RW (iM U U M) U Y8 (RW (v := (.int .u8 (a / 2 + iS (cF f) * 128))) (dM U U) U (aD _ (aIq ha _)) (bZ ?_))
  refine xL ?_
  refine pF ?_
  have hk : k % 8 = 3 := by omega
  have hr : gU k a f = a / 2 + iS (cF f) * 128 := by unfold gU; rw [hk]; rfl
  refine Qu fun ho => ?_
  have e9 : Value.tuple #[.int .u8 (a / 2 + iS (cF f) * 128), .int .u8 (fl ((a / 2 + iS (cF f) * 128) == 0) false false (a % 2 == 1))] = .tuple #[.int .u8 (gU k a f), .int .u8 (mH k a f)] := by unfold mH; rw [hr, ho]
  exact aZ (fun _ _ => mQ U U) ⟨U, e9⟩
 refine ZDG ?_
 refine KC (fun q6 z6 => ?_) (fun q6 z6 => ?_)
 ·refine ZBy ?_
  refine Io ?_
  refine ZBE ?_
  refine Dm ?_
  refine RW (v := (.int .u8 (a / 2 + a / 128 * 128))) (dM U U) U (aD _ (aFR ha)) (bZ ?_)
  refine xL ?_
  refine pF ?_
  have hk : k % 8 = 5 := by omega
  have hr : gU k a f = a / 2 + a / 128 * 128 := by unfold gU; rw [hk]; rfl
  refine Qu fun ho => ?_
  have e9 : Value.tuple #[.int .u8 (a / 2 + a / 128 * 128), .int .u8 (fl ((a / 2 + a / 128 * 128) == 0) false false (a % 2 == 1))] = .tuple #[.int .u8 (gU k a f), .int .u8 (mH k a f)] := by unfold mH; rw [hr, ho]
  exact aZ (fun _ _ => mQ U U) ⟨U, e9⟩
 refine aI ?_
 refine KC (fun q7 z7 => ?_) (fun q7 z7 => ?_)
 ·refine ZBy ?_
  refine Io ?_
  refine bZ ?_
  refine xL ?_
  refine pF ?_
  have hk : k % 8 = 7 := by omega
  have hr : gU k a f = a / 2 := by unfold gU; rw [hk]; rfl
  refine Qu fun ho => ?_
  have e9 : Value.tuple #[.int .u8 (a / 2), .int .u8 (fl ((a / 2) == 0) false false (a % 2 == 1))] = .tuple #[.int .u8 (gU k a f), .int .u8 (mH k a f)] := by unfold mH; rw [hr, ho]
  exact aZ (fun _ _ => mQ U U) ⟨U, e9⟩
 refine aI ?_
 refine xL ?_
 refine pF ?_
 exfalso; omega
def rpair_fn {β : Type} (K : lX prog β) (rb : Nat) (s : CS) (hr : s.r.Ok) (w : AI) (hrow : aK w rb 0 (cN K s)) (n : Int) : aG prog 259 [P_ rb, .int .i64 n] w [] (V_ (.int .u16 (dD s.r n))) := by
 refine aT func259 ?_
 refine cL ?_
 refine W (bX U U U (cG (aK.left (aK.left hrow)) aL)) U (ZBE ?_)
 refine RX (cQ K_ U (aS (aGq s.r hr n))) U ?_
 rintro _ _ ⟨G0, ⟨rfl, k14, rfl⟩, rfl⟩
 refine fJ ?_
 exact E0 U ⟨U, U⟩
def zK {β : Type} (K : lX prog β) (rb : Nat) {bn : Nat} (x : Rn β) (h : RunOk K.toaQ8 bn x) (G : aF) (hG : K.rep x.m G) (n p : Int) (hp : 0 ≤ p ∧ p < 65536) (w : AI) (hst : St w (rb :: G.map (·.1)) ((rb, J (cN K x.s) 355) :: G) w) : aG prog 258 [P_ rb, .int .i64 n, .int .u16 p] w (rb :: G.map (·.1)) (fun v H => v = .tuple #[] ∧ sD K rb (x.reg (iT x.s.r n p)) H) := by
 refine cE func258 hst ?_
 refine aI ?_
 refine Zx ?_
 refine ZAm ?_
 refine RX (cQ K_ U (aS (aMe x.s.r n p hp))) U ?_
 rintro _ _ ⟨G0, ⟨rfl, k15, rfl⟩, rfl⟩
 refine aI ?_
 refine W (bH (l' := cN K { x.s with r := iT x.s.r n p }) 0) U (wN ?_)
 exact EN aJ ⟨U, G, U, hG⟩
def rget_fn {β : Type} (K : lX prog β) (rb : Nat) {bn : Nat} (x : Rn β) (h : RunOk K.toaQ8 (bn + 1) x) (G : aF) (hG : K.rep x.m G) (n : Int) (w : AI) (hst : St w (rb :: G.map (·.1)) ((rb, J (cN K x.s) 355) :: G) w) : aG prog 249 [P_ rb, .int .i64 n] w (rb :: G.map (·.1)) (fun v H => v = .int .u8 (gett K.toaQ7 n x).1 ∧ ∃ G', H = (rb, J (cN K x.s) 355) :: G' ∧ K.rep (gett K.toaQ7 n x).2.m G') := by
 refine cE func249 hst ?_
 refine cL ?_
 refine KC (fun q0 z0 => ?_) (fun q0 z0 => ?_)
 ·refine ZBE ?_
  obtain rfl : n = 6 := by omega
  refine DR [4, 5] (bW [0, 2, 4, 6, 8, 12, 14, 11, 17, 18]) ?_
  refine ZDG ?_
  refine DZ U (dG K_ U (fun w hw => rpair_fn K rb x.s h.r w (aH aE w hw) 2)) U jB (DX U (rI (F := [(rb, _)]) (A := G) U K.mR K.cR U (fun w hw => K.dR h.m hG (St.lentV hw) (tH h.r 2))) U aW ?_)
  rintro _ _ ⟨G0, ⟨rfl, hG0⟩, rfl⟩
  refine ZA7 ?_
  exact EV U aJ ⟨U, G0, U, hG0⟩
 refine ZDG ?_
 refine Zx ?_
 refine ZBE ?_
 refine RX (cQ K_ U (aS (aGz x.s.r n))) U ?_
 rintro _ _ ⟨G0, ⟨rfl, k25, rfl⟩, rfl⟩
 refine fJ ?_
 have hn : gett K.toaQ7 n x = (yX x.s.r n, x) := ae I
 exact EV U aJ ⟨by rw [hn], G, U, by rw [hn]; exact hG⟩
def Kk {β : Type} (K : lX prog β) (rb : Nat) {bn : Nat} (x : Rn β) (h : RunOk K.toaQ8 (bn + 1) x) (G : aF) (hG : K.rep x.m G) (n u : Int) (hu : 0 ≤ u ∧ u < 256) (w : AI) (hst : St w (rb :: G.map (·.1)) ((rb, J (cN K x.s) 355) :: G) w) : aG prog 248 [P_ rb, .int .i64 n, .int .u8 u] w (rb :: G.map (·.1)) (fun v H => v = .tuple #[] ∧ sD K rb (sett K.toaQ7 n u x) H) := by
 refine cE func248 hst ?_
 refine aI ?_
 refine KC (fun q0 z0 => ?_) (fun q0 z0 => ?_)
 ·refine ZBE ?_
  obtain rfl : n = 6 := by omega
  refine DR [4, 5, 6] (bW [0, 2, 4, 6, 8, 12, 14, 16, 11, 19]) ?_
  refine bA ?_
  refine DZ U (dG K_ U (fun w hw => rpair_fn K rb x.s h.r w (aH aE w hw) 2)) U jB (DX U (rI (F := [(rb, _)]) (A := G) U K.mW K.cW U (fun w hw => K.dW h.m hG (St.lentV hw) (tH h.r 2) hu)) U aW ?_)
  rintro _ _ ⟨G0, ⟨rfl, hG0⟩, rfl⟩
  refine ZAm ?_
  exact EN aJ ⟨U, G0, U, hG0⟩
 refine ZDG ?_
 refine Zx ?_
 refine ZAm ?_
 refine RX (cQ K_ U (aS (aNH x.s.r n u))) U ?_
 rintro _ _ ⟨G0, ⟨rfl, k27, rfl⟩, rfl⟩
 refine aI ?_
 refine W (bH (l' := cN K { x.s with r := qT x.s.r n u }) 0) U (wN ?_)
 have hn : sett K.toaQ7 n u x = x.reg (qT x.s.r n u) := ae I
 exact EN aJ ⟨U, by rw [hn]; exact ⟨G, rfl, hG⟩⟩
def ridle_fn {β : Type} (K : lX prog β) (rb : Nat) {bn : Nat} (n : Nat) (hn : n ≤ 1000) (x : Rn β) (h : RunOk K.toaQ8 (bn + n) x) (G : aF) (hG : K.rep x.m G) (w : AI) (hst : St w (rb :: G.map (·.1)) ((rb, J (cN K x.s) 355) :: G) w) : aG prog 211 [P_ rb, .int .i64 n] w (rb :: G.map (·.1)) (fun v H => v = .tuple #[] ∧ sD K rb (idles K.toaQ7 n x) H) := by
 have hs9 : ∀ i, (idles K.toaQ7 i x).s = x.s := fun i => by induction i with | zero => rfl | succ i ih => exact ih
 refine cE func211 hst ?_
 refine aI ?_
 refine dV (σ := Nat × aF) [5, 6, 7, 8, 9, 10, 11, 12] (fun s => [(5, .int .i64 s.1)]) (fun s => (rb, J (cN K x.s) 355) :: s.2) (fun s => s.1 ≤ n ∧ K.rep (idles K.toaQ7 s.1 x).m s.2) (fun s => n - s.1) (0, G) ?_ ?_ ?_ ?_
 ·exact ⟨av _, hG⟩
 ·exact .cons U .nil
 ·exact fun _ h => h
 rintro ⟨i, Gi⟩ y1 ⟨hi, hGi⟩
 dsimp only at hi hGi ⊢
 refine ZBn ?_
 refine KC (fun q0 z0 => ?_) (fun q0 z0 => ?_)
 ·refine bA ?_
  refine RX (rI (F := [(rb, _)]) (A := Gi) U K.mI K.cI U (fun w hw => K.dI (K.oL (k := 0 + 1) (h.idles i hi).m I) hGi (St.lentV hw))) U ?_
  rintro _ _ ⟨G0, ⟨rfl, hG0⟩, rfl⟩
  refine ZAm ?_
  refine jF ?_
  exact ⟨(i + 1, G0), ⟨aR, hG0⟩, Sn, .cons U .nil, bJ, fun _ h => h⟩
 refine ZBE ?_
 obtain rfl : i = n := by omega
 exact EN aJ ⟨U, Gi, by rw [hs9], hGi⟩
def rpush_fn {β : Type} (K : lX prog β) (rb : Nat) {bn : Nat} (x : Rn β) (h : RunOk K.toaQ8 (bn + 2) x) (G : aF) (hG : K.rep x.m G) (p : Int) (hp : 0 ≤ p ∧ p < 65536) (w : AI) (hst : St w (rb :: G.map (·.1)) ((rb, J (cN K x.s) 355) :: G) w) : aG prog 235 [P_ rb, .int .u16 p] w (rb :: G.map (·.1)) (fun v H => v = .tuple #[] ∧ sD K rb (push K.toaQ7 p x) H) := by
 refine cE func235 hst ?_
 refine ZA7 ?_
 refine RW (iV U U M) U (qC 256 M M) (RW (gN U U U) U vQ (ZBE ?_))
 refine RW (gN U U U) U vQ (Li ?_)
 refine ZBN fun b0 => ?_
 refine oS ?_
 refine dV (σ := Nat × aF) [5, 13, 14, 15, 16, 17, 18, 19, 20, 21, 22, 23, 24, 25, 26, 27, 28, 29, 30, 31, 32, 33, 34, 35, 36, 37, 38, 39, 40, 41, 42] (fun s => [(13, .int .i64 s.1)]) (fun s => (b0, J [.int .u8 (p / 256), .int .u8 (p % 256)] 5) :: (rb, J (cN K (pushN K.toaQ7 p x s.1).s) 355) :: s.2) (fun s => s.1 ≤ 2 ∧ K.rep (pushN K.toaQ7 p x s.1).m s.2) (fun s => 2 - s.1) (0, G) ?_ ?_ ?_ ?_
 ·exact ⟨av _, hG⟩
 ·exact .cons U .nil
 ·exact fun _ h => h
 rintro ⟨i, Gi⟩ y1 ⟨hi, hGi⟩
 dsimp only at hi hGi ⊢
 refine ZBn ?_
 refine KC (fun q0 z0 => ?_) (fun q0 z0 => ?_)
 ·refine ZBy ?_
  have hx9 := (h.pushN hp i I).le (k := 0 + 1) I
  have hk9 := hx9.r.sp
  refine ZBE ?_
  refine Bu ?_
  refine W (aX U U (bN (b := b0) aE (aIx p I))) U (cL ?_)
  refine RW (nA U U) U qZ (ZBy ?_)
  refine W (bH (l' := cN K { (pushN K.toaQ7 p x i).s with r := { (pushN K.toaQ7 p x i).s.r with sp := rJ (pushN K.toaQ7 p x i).s.r.sp } }) 1) U (wN ?_)
  refine C3 ?_
  refine DX U (rI (F := [(b0, _), (rb, _)]) (A := Gi) U K.mW K.cW U (fun w hw => K.dW hx9.m hGi (St.lentV hw) Ab (aDc hp i))) U aW ?_
  rintro _ _ ⟨G0, ⟨rfl, hG0⟩, rfl⟩
  refine ZAm ?_
  refine jF ?_
  exact ⟨(i + 1, G0), ⟨aR, hG0⟩, Sn, .cons U .nil, bJ, fun _ h => h⟩
 refine ZBE ?_
 obtain rfl : i = 2 := by omega
 exact EN (.cons _ aJ) ⟨U, Gi, U, hGi⟩
def Lw {β : Type} (K : lX prog β) (rb : Nat) {bn : Nat} (x : Rn β) (h : RunOk K.toaQ8 (bn + 2) x) (G : aF) (hG : K.rep x.m G) (w : AI) (hst : St w (rb :: G.map (·.1)) ((rb, J (cN K x.s) 355) :: G) w) : aG prog 262 [P_ rb] w (rb :: G.map (·.1)) (fun v H => v = .int .u16 (pop K.toaQ7 x).1 ∧ sD K rb ((pop K.toaQ7 x).2) H) := by
 refine cE func262 hst ?_
 refine jN ?_
 refine dV (σ := Nat × aF) [3, 4, 5, 6, 7, 8, 9, 10, 11, 12, 13, 14, 15, 16, 17, 18, 19, 20, 21, 22, 23, 24, 25, 26, 27, 28, 29, 30, 31, 32, 33, 34, 35, 36, 37, 38] (fun s => [(3, .int .u16 (popN K.toaQ7 x s.1).1), (5, .int .i64 s.1)]) (fun s => (rb, J (cN K (popN K.toaQ7 x s.1).2.s) 355) :: s.2) (fun s => s.1 ≤ 2 ∧ K.rep (popN K.toaQ7 x s.1).2.m s.2) (fun s => 2 - s.1) (0, G) ?_ ?_ ?_ ?_
 ·exact ⟨av _, hG⟩
 ·exact .cons U (.cons U .nil)
 ·exact fun _ h => h
 rintro ⟨i, Gi⟩ y3 ⟨hi, hGi⟩
 dsimp only at hi hGi ⊢
 refine ZBn ?_
 refine KC (fun q0 z0 => ?_) (fun q0 z0 => ?_)
 ·refine ZBy ?_
  have hx9 := (h.popN i I).le (k := 0 + 1) I
  have hk9 := hx9.r.sp
  have hv9 : 0 ≤ (K.read (popN K.toaQ7 x i).2.s.r.sp (popN K.toaQ7 x i).2.m).1 ∧ (K.read (popN K.toaQ7 x i).2.s.r.sp (popN K.toaQ7 x i).2.m).1 < 256 := hx9.pop1.2
  have ha9 := aHF (h.le (k := 0 + 1) I) (i := i) I
  refine ZBn ?_
  refine DR [5, 6, 7, 8, 9, 10, 11, 12, 15, 16] (bW [0, 2, 4, 6, 8, 10, 12, 14, 16, 18, 20, 22, 24, 30, 32, 27, 28, 34, 36, 38]) ?_
  refine jN ?_
  refine DW U (Cu U U) U mM (DX U (rI (F := [(rb, _)]) (A := Gi) U K.mR K.cR U (fun w hw => K.dR hx9.m hGi (St.lentV hw) hk9)) U aW ?_)
  rintro _ _ ⟨G0, ⟨rfl, hG0⟩, rfl⟩
  refine DW U (gN U U U) U qZ (DW (v := (.int .u16 (shl .u16 (K.read (popN K.toaQ7 x i).2.s.r.sp (popN K.toaQ7 x i).2.m).1 (8 * (i : Int))))) U (iM U U I) U U (DW (v := (.int .u16 (popN K.toaQ7 x (i + 1)).1)) U (dM U U) U (aD _ (B4 I ha9 (fun h => by subst h; rfl) hv9)) (bZ ?_)))
  refine RW (nL U U) U qZ (ZBy ?_)
  refine W (bH (l' := cN K { (popN K.toaQ7 x i).2.s with r := { (popN K.toaQ7 x i).2.s.r with sp := mX (popN K.toaQ7 x i).2.s.r.sp } }) 0) U (rT ?_)
  refine jF ?_
  exact ⟨(i + 1, G0), ⟨aR, hG0⟩, Sn, .cons U (.cons U .nil), bJ, fun _ h => h⟩
 refine ZDG ?_
 obtain rfl : i = 2 := by omega
 exact EV U aJ ⟨by rw [← Vs], Gi, by rw [← Vs], by rw [← Vs]; exact hGi⟩
def aBv {β : Type} (K : lX prog β) (rb : Nat) {bn : Nat} (x : Rn β) (h : RunOk K.toaQ8 bn x) (G : aF) (hG : K.rep x.m G) (k u : Int) (hu : 0 ≤ u ∧ u < 256) (w : AI) (hst : St w (rb :: G.map (·.1)) ((rb, J (cN K x.s) 355) :: G) w) : aG prog 250 [P_ rb, .int .i64 k, .int .u8 u] w (rb :: G.map (·.1)) (fun v H => v = .tuple #[] ∧ sD K rb (x.reg (kO x.s.r k u)) H) := by
 refine cE func250 hst ?_
 refine ZBE ?_
 refine DR [6, 7, 8, 9, 10, 11, 12, 13, 14] (bW [0, 2, 4, 6, 8, 10, 12, 14, 16, 18, 20, 22, 24, 26, 28, 30]) ?_
 refine fJ ?_
 refine DW (v := (.int .u8 (aQ .u8 x.s.r.f 16))) U U U U (DW (v := (.bool (cF x.s.r.f))) U U U (aD _ (Ve h.r.f)) (bZ ?_))
 refine rR (σ := Unit) [23, 24, 25] (fun _ => [(23, .bool (decide (k = 0 ∨ k = 1)))]) (fun _ => (rb, J (cN K x.s) 355) :: G) (fun _ => True) ?_ ?_
 ·refine ZBn ?_
  refine KC (fun q0 z0 => ?_) (fun q0 z0 => ?_)
  ·refine ZBE ?_
   exact ⟨(), trivial, .cons (aD Value.bool Ht) .nil, bJ, fun _ h => h⟩
  refine ZBy ?_
  exact ⟨(), trivial, .cons (aD Value.bool Ht) .nil, bJ, fun _ h => h⟩
 rintro _ yc23 _
 refine KC (fun q0 z0 => ?_) (fun q0 z0 => ?_)
 ·refine aI ?_
  refine KL (fun q1 z1 => ?_) (fun q1 z1 => ?_)
  ·refine ZA7 ?_
   refine aP K_ (aS (Pr x.s.r.a u (k == 1) h.r.a hu)) ?_
   refine ZDG ?_
   refine W (bH (l' := cN K { x.s with r := { x.s.r with a := qK x.s.r.a u (k == 1) } }) 0) U (pA ?_)
   refine W (bH (l' := cN K { x.s with r := { x.s.r with a := qK x.s.r.a u (k == 1), f := Av x.s.r.a u (k == 1) } }) 0) U (pA ?_)
   refine jL ?_
   refine ZA7 ?_
   have e9 : kO x.s.r k u = { x.s.r with a := qK x.s.r.a u (k == 1), f := Av x.s.r.a u (k == 1) } := by
    rcases (show k = 0 ∨ k = 1 by omega) with rfl | rfl <;> simp_all [kO]
   exact EN aJ ⟨U, G, wU, hG⟩
  refine ZA7 ?_
  refine aP K_ (aS (Pr x.s.r.a u false h.r.a hu)) ?_
  refine ZDG ?_
  refine W (bH (l' := cN K { x.s with r := { x.s.r with a := qK x.s.r.a u false } }) 0) U (pA ?_)
  refine W (bH (l' := cN K { x.s with r := { x.s.r with a := qK x.s.r.a u false, f := Av x.s.r.a u false } }) 0) U (pA ?_)
  refine jL ?_
  refine ZA7 ?_
  have e9 : kO x.s.r k u = { x.s.r with a := qK x.s.r.a u false, f := Av x.s.r.a u false } := by
   rcases (show k = 0 ∨ k = 1 by omega) with rfl | rfl <;> simp_all [kO]
  exact EN aJ ⟨U, G, wU, hG⟩
 refine rR (σ := Unit) [47, 48, 49, 50] (fun _ => [(47, .bool (decide (k = 2 ∨ k = 3 ∨ k = 7)))]) (fun _ => (rb, J (cN K x.s) 355) :: G) (fun _ => True) ?_ ?_
 ·refine ZBn ?_
  refine KC (fun q1 z1 => ?_) (fun q1 z1 => ?_)
  ·refine ZBE ?_
   exact ⟨(), trivial, .cons (aD Value.bool Ht) .nil, bJ, fun _ h => h⟩
  refine ZBn ?_
  refine KC (fun q2 z2 => ?_) (fun q2 z2 => ?_)
  ·refine ZBE ?_
   exact ⟨(), trivial, .cons (aD Value.bool Ht) .nil, bJ, fun _ h => h⟩
  refine ZBy ?_
  exact ⟨(), trivial, .cons (aD Value.bool Ht) .nil, bJ, fun _ h => h⟩
 rintro _ yc47 _
 refine KC (fun q1 z1 => ?_) (fun q1 z1 => ?_)
 ·refine aI ?_
  refine KL (fun q2 z2 => ?_) (fun q2 z2 => ?_)
  ·refine ZA7 ?_
   refine aP K_ (aS (aAt x.s.r.a u (k == 3) h.r.a hu)) ?_
   refine ZDG ?_
   refine W (bH (l' := cN K { x.s with r := { x.s.r with a := rG x.s.r.a u (k == 3) } }) 0) U (pA ?_)
   refine W (bH (l' := cN K { x.s with r := { x.s.r with a := rG x.s.r.a u (k == 3), f := sU x.s.r.a u (k == 3) } }) 0) U (oH ?_)
   refine KC (fun q3 z3 => ?_) (fun q3 z3 => ?_)
   ·refine ZDG ?_
    refine W (bH (l' := cN K { x.s with r := { x.s.r with a := x.s.r.a, f := sU x.s.r.a u (k == 3) } }) 0) U (wN ?_)
    have e9 : kO x.s.r k u = { x.s.r with a := x.s.r.a, f := sU x.s.r.a u (k == 3) } := by
     obtain rfl : k = 7 := by omega
     simp_all [kO]
    exact EN aJ ⟨U, G, wU, hG⟩
   refine ZBE ?_
   have e9 : kO x.s.r k u = { x.s.r with a := rG x.s.r.a u (k == 3), f := sU x.s.r.a u (k == 3) } := by
    rcases (show k = 2 ∨ k = 3 by omega) with rfl | rfl <;> simp_all [kO]
   exact EN aJ ⟨U, G, wU, hG⟩
  refine ZA7 ?_
  refine aP K_ (aS (aAt x.s.r.a u false h.r.a hu)) ?_
  refine ZDG ?_
  refine W (bH (l' := cN K { x.s with r := { x.s.r with a := rG x.s.r.a u false } }) 0) U (pA ?_)
  refine W (bH (l' := cN K { x.s with r := { x.s.r with a := rG x.s.r.a u false, f := sU x.s.r.a u false } }) 0) U (oH ?_)
  refine KC (fun q3 z3 => ?_) (fun q3 z3 => ?_)
  ·refine ZDG ?_
   refine W (bH (l' := cN K { x.s with r := { x.s.r with a := x.s.r.a, f := sU x.s.r.a u false } }) 0) U (wN ?_)
   have e9 : kO x.s.r k u = { x.s.r with a := x.s.r.a, f := sU x.s.r.a u false } := by
    obtain rfl : k = 7 := by omega
    simp_all [kO]
   exact EN aJ ⟨U, G, wU, hG⟩
  refine ZBE ?_
  have e9 : kO x.s.r k u = { x.s.r with a := rG x.s.r.a u false, f := sU x.s.r.a u false } := by
   rcases (show k = 2 ∨ k = 3 by omega) with rfl | rfl <;> simp_all [kO]
  exact EN aJ ⟨U, G, wU, hG⟩
 refine ZBn ?_
 refine KC (fun q2 z2 => ?_) (fun q2 z2 => ?_)
 ·refine ZBn ?_
  refine aP K_ (aS (aQl x.s.r.a u h.r.a hu)) ?_
  refine ZDG ?_
  refine W (bH (l' := cN K { x.s with r := { x.s.r with a := aQ .u8 x.s.r.a u } }) 0) U (pA ?_)
  refine W (bH (l' := cN K { x.s with r := { x.s.r with a := aQ .u8 x.s.r.a u, f := sZ 0 (aQ .u8 x.s.r.a u) } }) 0) U (pA ?_)
  refine jL ?_
  refine ZA7 ?_
  have e9 : kO x.s.r k u = { x.s.r with a := aQ .u8 x.s.r.a u, f := sZ 0 (aQ .u8 x.s.r.a u) } := by
   obtain rfl : k = 4 := by omega
   rfl
  exact EN aJ ⟨U, G, wU, hG⟩
 refine ZBn ?_
 refine KC (fun q3 z3 => ?_) (fun q3 z3 => ?_)
 ·refine ZBn ?_
  refine aP K_ (aS (aIa x.s.r.a u h.r.a hu)) ?_
  refine ZDG ?_
  refine W (bH (l' := cN K { x.s with r := { x.s.r with a := mK .u8 x.s.r.a u } }) 0) U (pA ?_)
  refine W (bH (l' := cN K { x.s with r := { x.s.r with a := mK .u8 x.s.r.a u, f := sZ 2 (mK .u8 x.s.r.a u) } }) 0) U (pA ?_)
  refine jL ?_
  refine ZA7 ?_
  have e9 : kO x.s.r k u = { x.s.r with a := mK .u8 x.s.r.a u, f := sZ 2 (mK .u8 x.s.r.a u) } := by
   obtain rfl : k = 5 := by omega
   rfl
  exact EN aJ ⟨U, G, wU, hG⟩
 refine ZBn ?_
 refine KC (fun q4 z4 => ?_) (fun q4 z4 => ?_)
 ·refine ZBn ?_
  refine aP K_ (aS (aPk x.s.r.a u h.r.a hu)) ?_
  refine ZDG ?_
  refine W (bH (l' := cN K { x.s with r := { x.s.r with a := bL .u8 x.s.r.a u } }) 0) U (pA ?_)
  refine W (bH (l' := cN K { x.s with r := { x.s.r with a := bL .u8 x.s.r.a u, f := sZ 1 (bL .u8 x.s.r.a u) } }) 0) U (pA ?_)
  refine jL ?_
  refine ZA7 ?_
  have e9 : kO x.s.r k u = { x.s.r with a := bL .u8 x.s.r.a u, f := sZ 1 (bL .u8 x.s.r.a u) } := by
   obtain rfl : k = 6 := by omega
   rfl
  exact EN aJ ⟨U, G, wU, hG⟩
 refine ZBy ?_
 refine jL ?_
 refine ZA7 ?_
 exact EN aJ ⟨U, G, by rw [show kO x.s.r k u = x.s.r by unfold kO; repeat rw [ae I]]; rfl, hG⟩
def Wp {β : Type} (K : lX prog β) (rb : Nat) {bn : Nat} (x : Rn β) (h : RunOk K.toaQ8 (bn + 2) x) (G : aF) (hG : K.rep x.m G) (n : Int) (ff : Nat) (V1 V2 : AA) (hcf : gR prog ff = true) (gg : Int → Int → Int × Int) (hgb : ∀ a f, 0 ≤ a ∧ a < 256 → 0 ≤ f ∧ f < 256 → (0 ≤ (gg a f).1 ∧ (gg a f).1 < 256) ∧ (0 ≤ (gg a f).2 ∧ (gg a f).2 < 256)) (w : AI) (hst : St w (rb :: G.map (·.1)) ((rb, J (cN K x.s) 355) :: G) w) (hfun : ∀ (w' : AI) (H' : aF) (a f : Int), St w (rb :: G.map (·.1)) H' w' → 0 ≤ a ∧ a < 256 → 0 ≤ f ∧ f < 256 → aG prog ff (V1 ++ [.int .u8 a, .int .u8 f] ++ V2) w' [] (fun v H => H = [] ∧ v = .tuple #[.int .u8 (gg a f).1, .int .u8 (gg a f).2])) : aG prog 251 [P_ rb, .int .i64 n, .func (.func ff) V1.toArray V2.toArray] w (rb :: G.map (·.1)) (fun v H => v = .tuple #[] ∧ sD K rb (change K.toaQ7 n gg x) H) := by
 have hq9 := h.gett n
 have hb9 := hgb _ _ hq9.2 h.r.f
 refine cE func251 hst ?_
 refine ZBE ?_
 refine mZ [(rb, J (cN K x.s) 355)] [3] (.step true 0 (.step true 1 (.step true 2 (.step true 4 (.step true 5 (.step true 6 (.step true 7 (.step true 8 (.step true 9 (.step false 3 (.step false 10 (.step true 11 (.step true 12 (.step true 13 (.step true 14 (.step true 15 .done)))))))))))))))) U aO aO (fun x hx => Kz) ?_
 refine bZ ?_
 refine DX U (gY K_ U (kD (rget_fn K rb x h G hG n))) U (by rintro _ _ _ ⟨rfl, _, rfl, _⟩ x hx; obtain rfl := List.mem_singleton.1 hx; exact .head _) ?_
 rintro _ _ ⟨rfl, G0, rfl, hG0⟩
 refine DZ U (Iy (A := V1) (B := V2) U hcf U (fun w hw => hfun w _ _ _ hw hq9.2 h.r.f)) U aW (tB ?_)
 refine cL ?_
 refine RX (gY K_ U (kD (Kk K rb (x.mem (gett K.toaQ7 n x).2.m) (h.gmem n) G0 hG0 n (gg (gett K.toaQ7 n x).1 x.s.r.f).1 hb9.1))) U ?_
 rintro _ _ ⟨rfl, G1, rfl, hG1⟩
 refine bA ?_
 refine W (bH (l' := cN K { (sett K.toaQ7 n (gg (gett K.toaQ7 n x).1 x.s.r.f).1 (x.mem (gett K.toaQ7 n x).2.m)).s with r := { (sett K.toaQ7 n (gg (gett K.toaQ7 n x).1 x.s.r.f).1 (x.mem (gett K.toaQ7 n x).2.m)).s.r with f := (gg (gett K.toaQ7 n x).1 x.s.r.f).2 } }) 0) U (wN ?_)
 have e9 : change K.toaQ7 n gg x = (sett K.toaQ7 n (gg (gett K.toaQ7 n x).1 x.s.r.f).1 (x.mem (gett K.toaQ7 n x).2.m)).reg { (sett K.toaQ7 n (gg (gett K.toaQ7 n x).1 x.s.r.f).1 (x.mem (gett K.toaQ7 n x).2.m)).s.r with f := (gg (gett K.toaQ7 n x).1 x.s.r.f).2 } := by unfold change; dsimp only; rw [Cv]; rfl
 exact EN aJ ⟨U, G1, wU, nC⟩
def aAR {β : Type} (K : lX prog β) (rb : Nat) {bn : Nat} (x : Rn β) (h : RunOk K.toaQ8 bn x) (G : aF) (hG : K.rep x.m G) (n : Int) (w : AI) (hst : St w (rb :: G.map (·.1)) ((rb, J (cN K x.s) 355) :: G) w) : aG prog 263 [P_ rb, .int .i64 n] w (rb :: G.map (·.1)) (fun v H => v = .int .u16 (far n x).1 ∧ sD K rb ((far n x).2) H) := by
 refine cE func263 hst ?_
 refine cL ?_
 refine KC (fun q0 z0 => ?_) (fun q0 z0 => ?_)
 ·refine ZBy ?_
  refine aP K_ (fun w hw => rpair_fn K rb x.s h.r w (aH aE w hw) n) ?_
  refine ZA7 ?_
  have e9 : far n x = (dD x.s.r n, x) := ag I
  exact EV U aJ ⟨jO, G, jO, rO⟩
 refine ZBy ?_
 refine aP K_ (fun w hw => rpair_fn K rb x.s h.r w (aH aE w hw) 2) ?_
 refine bA ?_
 refine KC (fun q1 z1 => ?_) (fun q1 z1 => ?_)
 ·refine ZA7 ?_
  refine RW (v := (.int .u16 (mX (dD x.s.r 2)))) (nL U U) U (aD _ (pR _)) (RX (gY K_ U (kD (zK K rb x h G hG 2 (mX (dD x.s.r 2)) xW))) U ?_)
  rintro _ _ ⟨rfl, G0, rfl, hG0⟩
  refine ZDG ?_
  have e9 : far n x = (dD x.s.r 2, x.reg (iT x.s.r 2 (mX (dD x.s.r 2)))) := by unfold far; rw [ae I, ag I]
  exact EV U aJ ⟨jO, G0, jO, kT⟩
 refine ZA7 ?_
 refine RW (v := (.int .u16 (rJ (dD x.s.r 2)))) (nA U U) U (aD _ (pR _)) (RX (gY K_ U (kD (zK K rb x h G hG 2 (rJ (dD x.s.r 2)) Ab))) U ?_)
 rintro _ _ ⟨rfl, G0, rfl, hG0⟩
 refine ZDG ?_
 have e9 : far n x = (dD x.s.r 2, x.reg (iT x.s.r 2 (rJ (dD x.s.r 2)))) := by unfold far; rw [ae I, ae I]
 exact EV U aJ ⟨jO, G0, jO, kT⟩
end Go.Proofs.YthigpmaadmneaaaGreatDoor
