/- Parts. -/
import Derived.Test.YtacejanlmhbddaaGreatQfI
set_option maxRecDepth 100000
set_option maxHeartbeats 1000000
set_option linter.all false
namespace Go.Proofs.YtacejanlmhbddaaGreat
open Go Go.VV Go.Proofs Go.RowKit Go.Proofs.Tryz
def vU (w : AI) : aB prog 191 [] w [] (V_ (.agg (uX.map U_).toArray)) := by
 refine dR_ func191 ?_
 refine ZDX fun b0 => ?_
 refine ZA1 ?_
 refine RY (lZ (l := [.int .u8 128, .int .u8 63, .int .u8 0, .int .u8 255, .int .u8 191, .int .u8 255, .int .u8 63, .int .u8 0, .int .u8 255, .int .u8 191, .int .u8 127, .int .u8 255, .int .u8 159, .int .u8 255, .int .u8 191, .int .u8 255, .int .u8 255, .int .u8 0, .int .u8 0, .int .u8 191, .int .u8 0, .int .u8 0, .int .u8 112]) (z := [.int .u8 0, .int .u8 0, .int .u8 0, .int .u8 0, .int .u8 0, .int .u8 0, .int .u8 0, .int .u8 0, .int .u8 0, .int .u8 0, .int .u8 0, .int .u8 0, .int .u8 0, .int .u8 0, .int .u8 0, .int .u8 0, .int .u8 0, .int .u8 0, .int .u8 0, .int .u8 0, .int .u8 0, .int .u8 0, .int .u8 0]) (ps := [(0, .int .u8 128), (1, .int .u8 63), (2, .int .u8 0), (3, .int .u8 255), (4, .int .u8 191), (5, .int .u8 255), (6, .int .u8 63), (7, .int .u8 0), (8, .int .u8 255), (9, .int .u8 191), (10, .int .u8 127), (11, .int .u8 255), (12, .int .u8 159), (13, .int .u8 255), (14, .int .u8 191), (15, .int .u8 255), (16, .int .u8 255), (17, .int .u8 0), (18, .int .u8 0), (19, .int .u8 191), (20, .int .u8 0), (21, .int .u8 0), (22, .int .u8 112)]) rfl rfl rfl y_f) rfl (ZAK ?_)
 exact aG (fun w hw => aW rfl rfl rfl (aA (b := b0) (l := uX.map U_) m_m w hw)) ⟨rfl, rfl⟩
def aEd (B : Bd) (hB : B.Wf) (n : Int) (w : AI) : aB prog 166 [.agg (cBd B).toArray, .int .i64 n] w [] (V_ (.int .u8 (readB n B))) := by
 refine dR_ func166 ?_
 refine ZEk ?_
 refine ZAq fun b0 => ?_
 refine ZEf ?_
 refine KL (fun q0 z0 => ?_) (fun q0 z0 => ?_)
 ·refine A_19 ?_
  exact E0 rfl ⟨rfl, y_cH⟩
 refine ZA1 ?_
 refine KL (fun q1 z1 => ?_) (fun q1 z1 => ?_)
 ·refine A_15 ?_
  exact E0 rfl ⟨rfl, y_cH⟩
 refine ZAl ?_
 refine KL (fun q2 z2 => ?_) (fun q2 z2 => ?_)
 ·refine ZBn ?_
  refine KC (fun q3 z3 => ?_) (fun q3 z3 => ?_)
  ·refine ZBb ?_
   exact E0 rfl ⟨rfl, y_cH⟩
  refine ZBL ?_
  obtain ⟨k, rfl⟩ : ∃ k : Nat, n = k := ⟨n.toNat, y_y⟩
  refine ZBb ?_
  refine KC (fun q4 z4 => ?_) (fun q4 z4 => ?_)
  ·refine ZBr ?_
   refine RY (aQ k rfl rfl rfl o_m o_m) rfl (RZ (aE rfl rfl (aJ m_m y_bY)) rfl (ZA1 ?_))
   exact E0 rfl ⟨rfl, y_dc⟩
  refine ZBn ?_
  refine KC (fun q5 z5 => ?_) (fun q5 z5 => ?_)
  ·refine ZBL ?_
   refine DR [4, 5, 6] (pln [0, 2, 4, 6, 10, 9, 12, 14, 16]) ?_
   refine ZAl ?_
   refine DY rfl (aQ k rfl rfl rfl o_m o_m) rfl (DL rfl rfl rfl (cJ m_m y_bY) rfl (ZBL ?_))
   refine DZ rfl (bJ K_ rfl (wQ_ vU)) rfl y_d (DY rfl (sG (l := uX.map U_) k rfl rfl rfl rfl rfl rfl o_m (cX (by show k < 23; omega)) rfl) rfl (DW rfl (cT rfl rfl) rfl rfl (ZA1 ?_)))
   exact E0 rfl ⟨rfl, y_cT⟩
  refine ZA1 ?_
  refine RLv K_ (wQ_ vU) ?_
  refine ZBL ?_
  refine RY (sG (l := uX.map U_) 22 rfl rfl rfl rfl rfl o_m o_m rfl rfl) rfl (ZBr ?_)
  rcases hon9 : B.on with _ | _
  ·refine ZDa ?_
   refine ZBL ?_
   refine iO false rfl rfl ?_
   refine ZBb ?_
   refine ZB7 ?_
   refine bD (σ := Nat) [5, 6, 7, 50, 51, 52, 53, 54, 55, 56, 57, 58, 59, 60] (fun i => [(5, .int .u8 (onV B i)), (50, .int .i64 i)]) (fun _ => [(b0, blk (cBd B) 147)]) (fun i => i ≤ 4) (fun i => 4 - i) 0 ?_ ?_ ?_ ?_
   ·exact al _
   ·exact .cons y_cJ (.cons rfl .nil)
   ·exact fun _ h => h
   rintro i y11 hi
   refine ZBb ?_
   refine KC (fun q6 z6 => ?_) (fun q6 z6 => ?_)
   ·refine ZBn ?_
    refine RY (sB (l := aF cVc B.vs) (c := cVc (B.v i)) i rfl rfl rfl rfl rfl rfl o_m (tA B.vs i y_dt)) rfl (ZAu fun b1 => ?_)
    refine ZA4 ?_
    refine ZBr ?_
    refine RZ (aE rfl rfl (aJ (v := .bool (B.v i).on) m_m rfl)) rfl (ZBL ?_)
    refine KC (fun q7 z7 => ?_) (fun q7 z7 => ?_)
    ·rcases (show i = 0 ∨ i = 1 ∨ i = 2 ∨ i = 3 by omega) with rfl | rfl | rfl | rfl
     ·refine ZCV ?_
      refine RW (v := (.int .u8 (onV B (0 + 1)))) (cT rfl rfl) rfl (cA_ U_ (kQ B (n := 0) y_b q7)) ?_
      refine ZA1 ?_
      exact RW (v := (.int .i64 ((0 + 1 : Nat) : Int))) rfl rfl (cA_ _ (bC o_m)) ZE4
     ·refine ZCV ?_
      refine RW (v := (.int .u8 (onV B (1 + 1)))) (cT rfl rfl) rfl (cA_ U_ (kQ B (n := 1) y_b q7)) ?_
      refine ZA1 ?_
      exact RW (v := (.int .i64 ((1 + 1 : Nat) : Int))) rfl rfl (cA_ _ (bC o_m)) ZE5
     ·refine ZCV ?_
      refine RW (v := (.int .u8 (onV B (2 + 1)))) (cT rfl rfl) rfl (cA_ U_ (kQ B (n := 2) y_b q7)) ?_
      refine ZA1 ?_
      exact RW (v := (.int .i64 ((2 + 1 : Nat) : Int))) rfl rfl (cA_ _ (bC o_m)) ZE6
     refine ZCV ?_
     refine RW (v := (.int .u8 (onV B (3 + 1)))) (cT rfl rfl) rfl (cA_ U_ (kQ B (n := 3) y_b q7)) ?_
     refine ZA1 ?_
     exact RW (v := (.int .i64 ((3 + 1 : Nat) : Int))) rfl rfl (cA_ _ (bC o_m)) ZE7
    refine ZAl ?_
    refine ZAD ?_
    exact ⟨i + 1, y_y, y_y, .cons (cA_ U_ (aCt B q7)) (.cons rfl .nil), a_g, fun _ h => h.sub (.cons _ sR_)⟩
   refine ZDH ?_
   exact ZDR
  refine ZDe ?_
  refine ZBL ?_
  refine iO true rfl rfl ?_
  refine ZAl ?_
  refine RW (v := (.int .u8 240)) (cT rfl rfl) rfl (cA_ U_ (show bor .u8 112 128 = 240 by decide)) ?_
  refine ZBn ?_
  refine ZB7 ?_
  refine bD (σ := Nat) [5, 6, 7, 50, 51, 52, 53, 54, 55, 56, 57, 58, 59, 60] (fun i => [(5, .int .u8 (onV B i)), (50, .int .i64 i)]) (fun _ => [(b0, blk (cBd B) 147)]) (fun i => i ≤ 4) (fun i => 4 - i) 0 ?_ ?_ ?_ ?_
  ·exact al _
  ·exact .cons y_cJ (.cons rfl .nil)
  ·exact fun _ h => h
  rintro i y11 hi
  refine ZBb ?_
  refine KC (fun q6 z6 => ?_) (fun q6 z6 => ?_)
  ·refine ZBn ?_
   refine RY (sB (l := aF cVc B.vs) (c := cVc (B.v i)) i rfl rfl rfl rfl rfl rfl o_m (tA B.vs i y_dt)) rfl (ZAu fun b1 => ?_)
   refine ZA4 ?_
   refine ZBr ?_
   refine RZ (aE rfl rfl (aJ (v := .bool (B.v i).on) m_m rfl)) rfl (ZBL ?_)
   refine KC (fun q7 z7 => ?_) (fun q7 z7 => ?_)
   ·rcases (show i = 0 ∨ i = 1 ∨ i = 2 ∨ i = 3 by omega) with rfl | rfl | rfl | rfl
    ·refine ZCV ?_
     refine RW (v := (.int .u8 (onV B (0 + 1)))) (cT rfl rfl) rfl (cA_ U_ (kQ B (n := 0) y_b q7)) ?_
     refine ZA1 ?_
     exact RW (v := (.int .i64 ((0 + 1 : Nat) : Int))) rfl rfl (cA_ _ (bC o_m)) ZE4
    ·refine ZCV ?_
     refine RW (v := (.int .u8 (onV B (1 + 1)))) (cT rfl rfl) rfl (cA_ U_ (kQ B (n := 1) y_b q7)) ?_
     refine ZA1 ?_
     exact RW (v := (.int .i64 ((1 + 1 : Nat) : Int))) rfl rfl (cA_ _ (bC o_m)) ZE5
    ·refine ZCV ?_
     refine RW (v := (.int .u8 (onV B (2 + 1)))) (cT rfl rfl) rfl (cA_ U_ (kQ B (n := 2) y_b q7)) ?_
     refine ZA1 ?_
     exact RW (v := (.int .i64 ((2 + 1 : Nat) : Int))) rfl rfl (cA_ _ (bC o_m)) ZE6
    refine ZCV ?_
    refine RW (v := (.int .u8 (onV B (3 + 1)))) (cT rfl rfl) rfl (cA_ U_ (kQ B (n := 3) y_b q7)) ?_
    refine ZA1 ?_
    exact RW (v := (.int .i64 ((3 + 1 : Nat) : Int))) rfl rfl (cA_ _ (bC o_m)) ZE7
   refine ZAl ?_
   refine ZAD ?_
   exact ⟨i + 1, y_y, y_y, .cons (cA_ U_ (aCt B q7)) (.cons rfl .nil), a_g, fun _ h => h.sub (.cons _ sR_)⟩
  refine ZDH ?_
  exact ZDR
 refine ZEf ?_
 obtain ⟨k, rfl⟩ : ∃ k : Nat, n = k := ⟨n.toNat, y_y⟩
 refine ZBb ?_
 refine KC (fun q3 z3 => ?_) (fun q3 z3 => ?_)
 ·refine ZBr ?_
  refine RY (aQ k rfl rfl rfl o_m o_m) rfl (RZ (aE rfl rfl (aJ m_m y_bY)) rfl (ZA1 ?_))
  exact E0 rfl ⟨rfl, y_dc⟩
 refine ZBn ?_
 refine KC (fun q4 z4 => ?_) (fun q4 z4 => ?_)
 ·refine ZBL ?_
  refine DR [4, 5, 6] (pln [0, 2, 4, 6, 10, 9, 12, 14, 16]) ?_
  refine ZAl ?_
  refine DY rfl (aQ k rfl rfl rfl o_m o_m) rfl (DL rfl rfl rfl (cJ m_m y_bY) rfl (ZBL ?_))
  refine DZ rfl (bJ K_ rfl (wQ_ vU)) rfl y_d (DY rfl (sG (l := uX.map U_) k rfl rfl rfl rfl rfl rfl o_m (cX (by show k < 23; omega)) rfl) rfl (DW rfl (cT rfl rfl) rfl rfl (ZA1 ?_)))
  exact E0 rfl ⟨rfl, y_cT⟩
 refine ZA1 ?_
 refine RLv K_ (wQ_ vU) ?_
 refine ZBL ?_
 refine RY (sG (l := uX.map U_) 22 rfl rfl rfl rfl rfl o_m o_m rfl rfl) rfl (ZBr ?_)
 rcases hon9 : B.on with _ | _
 ·refine ZDa ?_
  refine ZBL ?_
  refine iO false rfl rfl ?_
  refine ZBb ?_
  refine ZB7 ?_
  refine bD (σ := Nat) [5, 6, 7, 50, 51, 52, 53, 54, 55, 56, 57, 58, 59, 60] (fun i => [(5, .int .u8 (onV B i)), (50, .int .i64 i)]) (fun _ => [(b0, blk (cBd B) 147)]) (fun i => i ≤ 4) (fun i => 4 - i) 0 ?_ ?_ ?_ ?_
  ·exact al _
  ·exact .cons y_cJ (.cons rfl .nil)
  ·exact fun _ h => h
  rintro i y11 hi
  refine ZBb ?_
  refine KC (fun q5 z5 => ?_) (fun q5 z5 => ?_)
  ·refine ZBn ?_
   refine RY (sB (l := aF cVc B.vs) (c := cVc (B.v i)) i rfl rfl rfl rfl rfl rfl o_m (tA B.vs i y_dt)) rfl (ZAu fun b1 => ?_)
   refine ZA4 ?_
   refine ZBr ?_
   refine RZ (aE rfl rfl (aJ (v := .bool (B.v i).on) m_m rfl)) rfl (ZBL ?_)
   refine KC (fun q6 z6 => ?_) (fun q6 z6 => ?_)
   ·rcases (show i = 0 ∨ i = 1 ∨ i = 2 ∨ i = 3 by omega) with rfl | rfl | rfl | rfl
    ·refine ZCV ?_
     refine RW (v := (.int .u8 (onV B (0 + 1)))) (cT rfl rfl) rfl (cA_ U_ (kQ B (n := 0) y_b q6)) ?_
     refine ZA1 ?_
     exact RW (v := (.int .i64 ((0 + 1 : Nat) : Int))) rfl rfl (cA_ _ (bC o_m)) ZE4
    ·refine ZCV ?_
     refine RW (v := (.int .u8 (onV B (1 + 1)))) (cT rfl rfl) rfl (cA_ U_ (kQ B (n := 1) y_b q6)) ?_
     refine ZA1 ?_
     exact RW (v := (.int .i64 ((1 + 1 : Nat) : Int))) rfl rfl (cA_ _ (bC o_m)) ZE5
    ·refine ZCV ?_
     refine RW (v := (.int .u8 (onV B (2 + 1)))) (cT rfl rfl) rfl (cA_ U_ (kQ B (n := 2) y_b q6)) ?_
     refine ZA1 ?_
     exact RW (v := (.int .i64 ((2 + 1 : Nat) : Int))) rfl rfl (cA_ _ (bC o_m)) ZE6
    refine ZCV ?_
    refine RW (v := (.int .u8 (onV B (3 + 1)))) (cT rfl rfl) rfl (cA_ U_ (kQ B (n := 3) y_b q6)) ?_
    refine ZA1 ?_
    exact RW (v := (.int .i64 ((3 + 1 : Nat) : Int))) rfl rfl (cA_ _ (bC o_m)) ZE7
   refine ZAl ?_
   refine ZAD ?_
   exact ⟨i + 1, y_y, y_y, .cons (cA_ U_ (aCt B q6)) (.cons rfl .nil), a_g, fun _ h => h.sub (.cons _ sR_)⟩
  refine ZDH ?_
  exact ZDR
 refine ZDe ?_
 refine ZBL ?_
 refine iO true rfl rfl ?_
 refine ZAl ?_
 refine RW (v := (.int .u8 240)) (cT rfl rfl) rfl (cA_ U_ (show bor .u8 112 128 = 240 by decide)) ?_
 refine ZBn ?_
 refine ZB7 ?_
 refine bD (σ := Nat) [5, 6, 7, 50, 51, 52, 53, 54, 55, 56, 57, 58, 59, 60] (fun i => [(5, .int .u8 (onV B i)), (50, .int .i64 i)]) (fun _ => [(b0, blk (cBd B) 147)]) (fun i => i ≤ 4) (fun i => 4 - i) 0 ?_ ?_ ?_ ?_
 ·exact al _
 ·exact .cons y_cJ (.cons rfl .nil)
 ·exact fun _ h => h
 rintro i y11 hi
 refine ZBb ?_
 refine KC (fun q5 z5 => ?_) (fun q5 z5 => ?_)
 ·refine ZBn ?_
  refine RY (sB (l := aF cVc B.vs) (c := cVc (B.v i)) i rfl rfl rfl rfl rfl rfl o_m (tA B.vs i y_dt)) rfl (ZAu fun b1 => ?_)
  refine ZA4 ?_
  refine ZBr ?_
  refine RZ (aE rfl rfl (aJ (v := .bool (B.v i).on) m_m rfl)) rfl (ZBL ?_)
  refine KC (fun q6 z6 => ?_) (fun q6 z6 => ?_)
  ·rcases (show i = 0 ∨ i = 1 ∨ i = 2 ∨ i = 3 by omega) with rfl | rfl | rfl | rfl
   ·refine ZCV ?_
    refine RW (v := (.int .u8 (onV B (0 + 1)))) (cT rfl rfl) rfl (cA_ U_ (kQ B (n := 0) y_b q6)) ?_
    refine ZA1 ?_
    exact RW (v := (.int .i64 ((0 + 1 : Nat) : Int))) rfl rfl (cA_ _ (bC o_m)) ZE4
   ·refine ZCV ?_
    refine RW (v := (.int .u8 (onV B (1 + 1)))) (cT rfl rfl) rfl (cA_ U_ (kQ B (n := 1) y_b q6)) ?_
    refine ZA1 ?_
    exact RW (v := (.int .i64 ((1 + 1 : Nat) : Int))) rfl rfl (cA_ _ (bC o_m)) ZE5
   ·refine ZCV ?_
    refine RW (v := (.int .u8 (onV B (2 + 1)))) (cT rfl rfl) rfl (cA_ U_ (kQ B (n := 2) y_b q6)) ?_
    refine ZA1 ?_
    exact RW (v := (.int .i64 ((2 + 1 : Nat) : Int))) rfl rfl (cA_ _ (bC o_m)) ZE6
   refine ZCV ?_
   refine RW (v := (.int .u8 (onV B (3 + 1)))) (cT rfl rfl) rfl (cA_ U_ (kQ B (n := 3) y_b q6)) ?_
   refine ZA1 ?_
   exact RW (v := (.int .i64 ((3 + 1 : Nat) : Int))) rfl rfl (cA_ _ (bC o_m)) ZE7
  refine ZAl ?_
  refine ZAD ?_
  exact ⟨i + 1, y_y, y_y, .cons (cA_ U_ (aCt B q6)) (.cons rfl .nil), a_g, fun _ h => h.sub (.cons _ sR_)⟩
 refine ZDH ?_
 exact ZDR
def wK (a : Int) (ha : 0 ≤ a ∧ a < 65536) (w : AI) : aB prog 115 [.int .u16 a] w [] (V_ (.bool (pictured a))) := by
 refine dR_ func115 ?_
 refine ZEf ?_
 refine KL (fun q0 z0 => ?_) (fun q0 z0 => ?_)
 ·refine ZA1 ?_
  refine KL (fun q1 z1 => ?_) (fun q1 z1 => ?_)
  ·refine A_22 ?_
   exact E0 rfl ⟨rfl, (cA_ Value.bool y_j)⟩
  refine ZAl ?_
  refine KL (fun q2 z2 => ?_) (fun q2 z2 => ?_)
  ·refine ZBr ?_
   refine KL (fun q3 z3 => ?_) (fun q3 z3 => ?_)
   ·refine A_14 ?_
    exact E0 rfl ⟨rfl, (cA_ Value.bool y_j)⟩
   refine ZAl ?_
   refine KL (fun q4 z4 => ?_) (fun q4 z4 => ?_)
   ·refine ZA1 ?_
    refine KL (fun q5 z5 => ?_) (fun q5 z5 => ?_)
    ·exact ZE8
    exact ZE8
   exact ZDS
  refine ZDH ?_
  exact ZDT
 refine ZBn ?_
 refine KL (fun q1 z1 => ?_) (fun q1 z1 => ?_)
 ·refine ZBr ?_
  refine KL (fun q2 z2 => ?_) (fun q2 z2 => ?_)
  ·refine A_14 ?_
   exact E0 rfl ⟨rfl, (cA_ Value.bool y_j)⟩
  refine ZAl ?_
  exact ZDT
 refine ZDH ?_
 refine KL (fun q2 z2 => ?_) (fun q2 z2 => ?_)
 ·refine ZA1 ?_
  refine KL (fun q3 z3 => ?_) (fun q3 z3 => ?_)
  ·exact ZE8
  exact ZE8
 exact ZDS
def aN3 (A : Ad) (acc : AH) (m : Mm) (h : m.Wf) (w : AI) (hm : Row w A.mb 0 (cMm A acc m)) (hu : Row w A.ub 0 (cU m.u)) (hr : Row w A.rb 0 (m.ram.map (.int .u8))) (ho : Row w A.ob 0 (m.rom.map (.int .u8))) (a : Int) (ha : 0 ≤ a ∧ a < 65536) : aB prog 117 [P_ A.mb, .int .u16 a] w [] (V_ (.int .u8 (qI a m))) := by
 have hl9 := h.lRam
 refine dR_ func117 ?_
 refine ZBn ?_
 rcases hc9 : clockB m.bk with _ | p
 ·refine ZBb ?_
  refine ZCQ ?_
  refine ZE9 ?_
  refine ZCZ ?_
  refine ZBr ?_
  rcases hat9 : atB_ a m.bk with _ | n
  ·refine ZBb ?_
   refine ZCQ ?_
   refine ZEh ?_
   rw [hat9]
   refine A_11 ?_
   refine ZAQ ?_
   refine ZEf ?_
   exact E0 rfl ⟨rfl, (by unfold qI; rw [hc9]; dsimp only; rw [hat9])⟩
  refine ZBb ?_
  refine ZCQ ?_
  refine ZEh ?_
  rw [hat9]
  refine A_11 ?_
  refine ZAE ?_
  refine A_9 ?_
  refine RZ (aE rfl rfl (aV (hm _ _ (get_mid h.ln (j := 7) rfl)) y_r)) rfl (ZA1 ?_)
  refine KC (fun q0 z0 => ?_) (fun q0 z0 => ?_)
  ·refine ZBb ?_
   have hn9 := aFi a hat9
   refine ZEX ?_
   refine ZBL ?_
   refine ZE1 ?_
   refine ZAb ?_
   refine ZA1 ?_
   exact E0 rfl ⟨rfl, (by unfold qI; rw [hc9]; dsimp only; rw [hat9]; dsimp only; rw [if_pos o_m])⟩
  refine ZBn ?_
  have hn9 := aFi a hat9
  refine ZEX ?_
  refine ZBL ?_
  refine ZE1 ?_
  refine ZA1 ?_
  exact E0 rfl ⟨rfl, (by unfold qI; rw [hc9]; dsimp only; rw [hat9]; dsimp only; rw [if_neg o_m])⟩
 refine ZBb ?_
 refine ZCQ ?_
 refine ZE9 ?_
 refine ZEf ?_
 refine ZAQ ?_
 refine ZEf ?_
 refine RZ (aK rfl rfl rfl (fun w hw => rowM_ck (aN hm y_r w hw))) rfl (ZBL ?_)
 refine RLv K_ (wQ_ (aLP m.ck h.ck p)) ?_
 refine ZA1 ?_
 exact E0 rfl ⟨rfl, (by unfold qI; rw [hc9])⟩
def aMc (A : Ad) (acc : AH) (m : Mm) (h : m.Wf) (w : AI) (hm : Row w A.mb 0 (cMm A acc m)) (hu : Row w A.ub 0 (cU m.u)) (hr : Row w A.rb 0 (m.ram.map (.int .u8))) (ho : Row w A.ob 0 (m.rom.map (.int .u8))) (a : Int) (ha : 65280 ≤ a ∧ a < 65536) : aB prog 118 [P_ A.mb, .int .u16 a] w [] (V_ (.int .u8 (deviceM a m))) := by
 refine dR_ func118 ?_
 refine ZDH ?_
 refine ZAX ?_
 refine A_10 ?_
 refine KC (fun q0 z0 => ?_) (fun q0 z0 => ?_)
 ·refine ZBn ?_
  refine RZ (aK rfl rfl rfl (fun w hw => aDw (aN hm y_r w hw))) rfl (RLv K_ (wQ_ (aLe m.pd)) ?_)
  exact ZCP
 refine ZBn ?_
 refine KC (fun q1 z1 => ?_) (fun q1 z1 => ?_)
 ·refine ZBn ?_
  refine RZ (aK rfl rfl rfl (fun w hw => aDs (aN hm y_r w hw))) rfl (ZBL ?_)
  refine ZBg ?_
  refine RLv K_ (wQ_ (aMa m.pt h.pt _)) ?_
  exact ZCP
 refine ZBr ?_
 refine KL (fun q2 z2 => ?_) (fun q2 z2 => ?_)
 ·refine ZBb ?_
  refine KC (fun q3 z3 => ?_) (fun q3 z3 => ?_)
  ·refine ZBn ?_
   refine RZ (aK rfl rfl rfl (fun w hw => aDO (aN hm y_r w hw))) rfl (ZBL ?_)
   refine ZBg ?_
   refine RLv K_ (wQ_ (aKP m.tm h.tm _)) ?_
   exact ZCP
  refine ZBn ?_
  refine KC (fun q4 z4 => ?_) (fun q4 z4 => ?_)
  ·refine ZBn ?_
   refine RZ (aE rfl rfl (aV (hm _ _ (get_mid h.ln (j := 0) rfl)) y_r)) rfl (ZAb ?_)
   exact ZCP
  refine ZBr ?_
  refine KL (fun q5 z5 => ?_) (fun q5 z5 => ?_)
  ·refine ZBb ?_
   refine KC (fun q6 z6 => ?_) (fun q6 z6 => ?_)
   ·refine ZBn ?_
    refine RZ (aK rfl rfl y_cY (fun w hw => rowM_bd (aN hm y_r w hw))) rfl (ZBL ?_)
    refine ZBg ?_
    refine RLv K_ (wQ_ (aEd m.bd h.bd _)) ?_
    exact ZCP
   refine ZBn ?_
   refine KC (fun q7 z7 => ?_) (fun q7 z7 => ?_)
   ·refine ZDH ?_
    exact RZ (aE rfl rfl (fun w hw => y_ej)) rfl ZCP
   refine ZBn ?_
   refine KC (fun q8 z8 => ?_) (fun q8 z8 => ?_)
   ·refine ZBn ?_
    exact RZ (aE rfl rfl (aV (hm _ _ (get_mid h.ln (j := 1) rfl)) y_r)) rfl ZCP
   refine ZBn ?_
   refine KC (fun q9 z9 => ?_) (fun q9 z9 => ?_)
   ·refine ZBr ?_
    refine RW (iV rfl rfl) rfl y_q (ZAl ?_)
    exact RY (aQ (a - 65408).toNat rfl rfl rfl o_m o_m) rfl (RZ (aE rfl rfl (aV (by have q8 := hm _ _ (get_high h.ln (j := (a - 65408).toNat) o_m); rwa [← dt] at q8) y_r)) rfl ZCP)
   exact ZFG
  refine A_12 ?_
  refine KC (fun q6 z6 => ?_) (fun q6 z6 => ?_)
  ·refine ZDH ?_
   exact RZ (aE rfl rfl (fun w hw => y_ej)) rfl ZCP
  refine ZBn ?_
  refine KC (fun q7 z7 => ?_) (fun q7 z7 => ?_)
  ·refine ZBn ?_
   exact RZ (aE rfl rfl (aV (hm _ _ (get_mid h.ln (j := 1) rfl)) y_r)) rfl ZCP
  refine ZBn ?_
  exact ZFH
 refine A_12 ?_
 refine KC (fun q3 z3 => ?_) (fun q3 z3 => ?_)
 ·refine ZBn ?_
  refine RZ (aE rfl rfl (aV (hm _ _ (get_mid h.ln (j := 0) rfl)) y_r)) rfl (ZAb ?_)
  exact ZCP
 refine ZBr ?_
 refine KL (fun q4 z4 => ?_) (fun q4 z4 => ?_)
 ·refine ZBb ?_
  refine KC (fun q5 z5 => ?_) (fun q5 z5 => ?_)
  ·refine ZBn ?_
   refine RZ (aK rfl rfl y_cY (fun w hw => rowM_bd (aN hm y_r w hw))) rfl (ZBL ?_)
   refine ZBg ?_
   refine RLv K_ (wQ_ (aEd m.bd h.bd _)) ?_
   exact ZCP
  refine ZBn ?_
  refine KC (fun q6 z6 => ?_) (fun q6 z6 => ?_)
  ·refine ZDH ?_
   exact RZ (aE rfl rfl (fun w hw => y_ej)) rfl ZCP
  refine ZBn ?_
  refine KC (fun q7 z7 => ?_) (fun q7 z7 => ?_)
  ·refine ZBn ?_
   exact RZ (aE rfl rfl (aV (hm _ _ (get_mid h.ln (j := 1) rfl)) y_r)) rfl ZCP
  refine ZBn ?_
  exact ZFH
 refine A_12 ?_
 refine KC (fun q5 z5 => ?_) (fun q5 z5 => ?_)
 ·refine ZDH ?_
  exact RZ (aE rfl rfl (fun w hw => y_ej)) rfl ZCP
 refine ZBn ?_
 refine KC (fun q6 z6 => ?_) (fun q6 z6 => ?_)
 ·refine ZBn ?_
  exact RZ (aE rfl rfl (aV (hm _ _ (get_mid h.ln (j := 1) rfl)) y_r)) rfl ZCP
 refine ZBn ?_
 refine KC (fun q7 z7 => ?_) (fun q7 z7 => ?_)
 ·refine ZBr ?_
  refine RW (iV rfl rfl) rfl y_q (ZAl ?_)
  exact RY (aQ (a - 65408).toNat rfl rfl rfl o_m o_m) rfl (RZ (aE rfl rfl (aV y_bz y_r)) rfl ZCP)
 exact ZFG
def aFx (A : Ad) (acc : AH) (m : Mm) (h : m.Wf) (w : AI) (hm : Row w A.mb 0 (cMm A acc m)) (hu : Row w A.ub 0 (cU m.u)) (hr : Row w A.rb 0 (m.ram.map (.int .u8))) (ho : Row w A.ob 0 (m.rom.map (.int .u8))) (a : Int) (ha : 0 ≤ a ∧ a < 65536) : aB prog 65 [P_ A.mb, .int .u16 a] w [] (V_ (.int .u8 (lL a m))) := by
 have hrom := aQG h ha
 refine dR_ func65 ?_
 refine A_9 ?_
 refine ZAE ?_
 refine A_9 ?_
 refine KC (fun q0 z0 => ?_) (fun q0 z0 => ?_)
 ·refine ZBL ?_
  refine DR [4, 5, 6, 7, 8, 9, 10] (pln [0, 2, 4, 6, 8, 10, 12, 14, 16, 18, 21, 22, 24, 26]) ?_
  refine ZA1 ?_
  refine DL rfl rfl rfl (eB (hm _ _ (get_mid h.ln (j := 4) rfl)) y_r) rfl (ZBr ?_)
  refine cL rfl rfl rfl rfl (fun w hw => rowM_bk (aB1 hm y_r w hw)) rfl rfl ?_
  refine ZBL ?_
  refine DZ rfl (bJ K_ rfl (wQ_ (aRo m.bk h.bk h.banks a ha))) rfl y_d (DY rfl (aP (aBC a m.bk).toNat rfl rfl rfl o_m o_m) rfl (DL rfl rfl rfl (eB (ho _ _ (cX (j := (aBC a m.bk).toNat) o_m)) y_r) rfl (ZA1 ?_)))
  exact E0 rfl ⟨rfl, (by unfold lL; rw [if_pos o_m])⟩
 refine ZA1 ?_
 refine RLv K_ (wQ_ (wK a ha)) ?_
 refine ZAl ?_
 refine KC (fun q1 z1 => ?_) (fun q1 z1 => ?_)
 ·refine ZBb ?_
  refine RZ (aE rfl rfl (aV (hm _ _ (get_mid h.ln (j := 14) rfl)) y_r)) rfl (ZBL ?_)
  refine RLv K_ (fun w hw => peek_fn A.ub m.u h.u.wf w (aN hu y_r w hw) a ha) ?_
  refine ZA1 ?_
  exact E0 rfl ⟨rfl, (by unfold lL; rw [if_neg o_m, if_pos q1])⟩
 refine ZBn ?_
 refine KC (fun q2 z2 => ?_) (fun q2 z2 => ?_)
 ·refine ZBr ?_
  refine RLv K_ (fun w hw => aN3 A acc m h w (aN hm y_r w hw) (aN hu y_r w hw) (aN hr y_r w hw) (aN ho y_r w hw) a ha) ?_
  refine ZA1 ?_
  exact E0 rfl ⟨rfl, (by unfold lL; rw [if_neg o_m, if_neg y_bP, if_pos o_m])⟩
 refine ZBn ?_
 refine KC (fun q3 z3 => ?_) (fun q3 z3 => ?_)
 ·refine ZBr ?_
  refine ZBY ?_
  refine ZAl ?_
  refine RY (aQ (a % 8192).toNat rfl rfl rfl o_m o_m) rfl (RZ (aE rfl rfl (aV (by have h9 := hm _ _ (aGC h.ln (j := (a % 8192).toNat) o_m); rwa [← dt] at h9) y_r)) rfl (ZA1 ?_))
  exact E0 rfl ⟨rfl, (by unfold lL; rw [if_neg o_m, if_neg y_bP, if_neg o_m, if_pos o_m])⟩
 refine ZBn ?_
 refine KC (fun q4 z4 => ?_) (fun q4 z4 => ?_)
 ·refine ZBb ?_
  exact E0 rfl ⟨rfl, (by unfold lL; rw [if_neg o_m, if_neg y_bP, if_neg o_m, if_neg o_m, if_pos o_m])⟩
 refine ZBb ?_
 refine RLv K_ (fun w hw => aMc A acc m h w (aN hm y_r w hw) (aN hu y_r w hw) (aN hr y_r w hw) (aN ho y_r w hw) a o_m) ?_
 refine ZA1 ?_
 exact E0 rfl ⟨rfl, (by unfold lL; rw [if_neg o_m, if_neg y_bP, if_neg o_m, if_neg o_m, if_neg o_m])⟩
def aAg (A : Ad) (acc : AH) (m : Mm) (h : MLn m) (w : AI) (hm : Row w A.mb 0 (cMm A acc m)) : aB prog 63 [P_ A.mb] w [] (V_ (.agg (cS m.cpu).toArray)) := by
 refine dR_ func63 ?_
 refine ZDX fun b0 => ?_
 refine ZBb ?_
 refine ZAE ?_
 refine A_9 ?_
 refine RZ (aK rfl rfl rfl (fun w hw => aFs (aN hm y_r w hw))) rfl (ZAK ?_)
 exact aG (fun w hw => aW rfl rfl rfl (aA (b := b0) m_m w hw)) ⟨rfl, rfl⟩
def aOw (A : Ad) (acc : AH) (m : Mm) (h : m.Wf) (w : AI) (hm : Row w A.mb 0 (cMm A acc m)) (a : Int) (ha : 0 ≤ a ∧ a < 65536) : aB prog 71 [P_ A.mb, .int .u16 a] w [] (V_ (.int .i64 (if 32768 ≤ a then 0 else bankB a m.bk))) := by
 refine dR_ func71 ?_
 refine ZCZ ?_
 refine ZBb ?_
 refine KC (fun q0 z0 => ?_) (fun q0 z0 => ?_)
 ·refine ZBb ?_
  exact E0 rfl ⟨rfl, (cA_ (Value.int .i64) y_dL)⟩
 refine ZDH ?_
 refine ZCQ ?_
 refine ZBL ?_
 refine RLv K_ (wQ_ (aF2 m.bk h.bk h.banks a ha)) ?_
 refine ZA1 ?_
 exact E0 rfl ⟨rfl, (cA_ (Value.int .i64) y_dM)⟩
def ask_fnM (A : Ad) (acc : AH) (m : Mm) (h : MLn m) (k : Int) (is : Bool) (w : AI) (hst : St w [A.mb] [(A.mb, blk (cMm A acc m) 156)] w) : aB prog 122 [P_ A.mb, .int .u8 k, .bool is] w [A.mb] (fun v H => v = .tuple #[] ∧ H = [(A.mb, blk (cMm A acc (askM k is m)) 156)]) := by
 refine dO_ func122 hst ?_
 refine ZBr ?_
 refine KC (fun q0 z0 => ?_) (fun q0 z0 => ?_)
 ·refine ZBb ?_
  refine RZ (aE rfl rfl (aJ m_m (get_mid h (j := 0) rfl))) rfl (ZBL ?_)
  refine RY (cT rfl rfl) rfl (ZA1 ?_)
  refine RZ (aD (l' := cMm A acc { m with flags := bor .u8 m.flags k }) 0 rfl rfl rfl rfl rfl rfl (by rw [cMm_len h]; exact ae rfl) (qR h _)) rfl (ZAC ?_)
  refine ZBL ?_
  exact EN sR_ ⟨rfl, by rw [show askM k is m = { m with flags := bor .u8 m.flags k } from if_pos q0]⟩
 refine ZBL ?_
 exact EN sR_ ⟨rfl, by rw [show askM k is m = m from if_neg (by rw [q0]; decide)]⟩
set_option maxHeartbeats 4000000 in
def cycle_fn (A : Ad) (acc : AH) (m : Mm) (h : m.Wf) (w : AI) (hst : St w [A.mb, A.ub] [(A.mb, blk (cMm A acc m) 156), (A.ub, blk (cU m.u) 247)] w) (hr : Row w A.rb 0 (m.ram.map (.int .u8))) (ho : Row w A.ob 0 (m.rom.map (.int .u8))) (hd : A.rb ∉ [A.mb, A.ub] ∧ A.ob ∉ [A.mb, A.ub]) : aB prog 279 [P_ A.mb] w [A.mb, A.ub] (fun v H => v = .tuple #[] ∧ H = [(A.mb, blk (cMm A acc (cycleM m)) 156), (A.ub, blk (cU (cycleM m).u) 247)]) := by
 have q0 := h.cyc1W
 have q1 := q0.cyc2W
 have q2 := q1.cyc3W
 have q3 := q2.cyc4W
 have q4 := q3.cyc5W
 have hA3 : ({ (cyc2 (cyc1 m)) with cp := tickCp (cyc2 (cyc1 m)).cp } : Mm).Wf := q1.cp_ q1.cp.tick
 have hA0 : MLn ({ m with cycles := (m.cycles + 1) % 18446744073709551616 } : Mm) := ⟨h.ln.bd, h.ln.work, h.ln.high⟩
 have hA1 : MLn ({ m with cycles := (m.cycles + 1) % 18446744073709551616, tm := mT m.tm } : Mm) := ⟨h.ln.bd, h.ln.work, h.ln.high⟩
 have hr2 : Row w A.rb 0 ((cyc2 (cyc1 m)).ram.map (.int .u8)) := by rw [aEJ]; exact hr
 have ho2 : Row w A.ob 0 ((cyc2 (cyc1 m)).rom.map (.int .u8)) := by rw [aEj]; exact ho
 have hA2 : MLn ({ (cyc1 m) with pt := tickPt (cyc1 m).pt } : Mm) := ⟨q0.ln.bd, q0.ln.work, q0.ln.high⟩
 have hA5 : MLn ({ (cyc4 (cyc3 (cyc2 (cyc1 m)))) with u := tickU (cyc4 (cyc3 (cyc2 (cyc1 m)))).u } : Mm) := ⟨q3.ln.bd, q3.ln.work, q3.ln.high⟩
 have hA5b : MLn (askM 1 (aH .u8 (tickV (cyc4 (cyc3 (cyc2 (cyc1 m)))).u) 1 != 0) { (cyc4 (cyc3 (cyc2 (cyc1 m)))) with u := tickU (cyc4 (cyc3 (cyc2 (cyc1 m)))).u }) := ((q3.u_ q3.u.tick).ask _ _).ln
 refine dO_ func279 hst ?_
 refine ZBn ?_
 refine RZ (aE rfl rfl (aJ (v := .int .u64 m.cycles) m_m (get_mid h.ln (j := 3) rfl))) rfl (RW (jD rfl rfl) rfl y_bb (ZA1 ?_))
 refine RZ (aD (l' := cMm A acc { m with cycles := (m.cycles + 1) % 18446744073709551616 }) 0 rfl rfl rfl rfl rfl rfl y_w (aBs h.ln _)) rfl (ZAC ?_)
 refine A_12 ?_
 refine RZ (aK rfl rfl rfl (fun w hw => aDO (m := ({ m with cycles := (m.cycles + 1) % 18446744073709551616 } : Mm)) (acc := acc) (aA (b := A.mb) m_m w hw))) rfl (RLv K_ (wQ_ (aLE m.tm h.tm)) ?_)
 refine ZBn ?_
 refine RZ (aD (l' := cMm A acc { m with cycles := (m.cycles + 1) % 18446744073709551616, tm := mT m.tm }) 0 rfl rfl rfl rfl rfl rfl (by rw [cMm_len hA0]; exact ae rfl) (aIb _)) rfl (ZEZ ?_)
 refine RX (bB (F := []) (A := [(A.mb, blk (cMm A acc { m with cycles := (m.cycles + 1) % 18446744073709551616, tm := mT m.tm }) 156)]) (G := [(A.ub, blk (cU m.u) 247)]) (R := fun v H => v = .tuple #[] ∧ H = [(A.mb, blk (cMm A acc (askM 4 m.tm.over { m with cycles := (m.cycles + 1) % 18446744073709551616, tm := mT m.tm })) 156)]) K_ rfl (fun w hw _ => ask_fnM A acc { m with cycles := (m.cycles + 1) % 18446744073709551616, tm := mT m.tm } hA1 4 m.tm.over w hw)) rfl (ZAG ?_)
 refine ZAl ?_
 refine eW (L' := [(A.mb, blk (cMm A acc (cyc1 m)) 156), (A.ub, blk (cU (cyc1 m).u) 247)]) (fun _ h => h.as (by rw [aTN]; rfl)) ?_
 refine ZBn ?_
 refine RZ (aK rfl rfl rfl (fun w hw => aDs (m := (cyc1 m)) (acc := acc) (aA (b := A.mb) m_m w hw))) rfl (RLv K_ (wQ_ (aKt (cyc1 m).pt q0.pt)) ?_)
 refine ZBn ?_
 refine RZ (aD (l' := cMm A acc { (cyc1 m) with pt := tickPt (cyc1 m).pt }) 0 rfl rfl rfl rfl rfl rfl (by rw [cMm_len q0.ln]; exact ae rfl) (aHw _)) rfl (ZEZ ?_)
 refine RX (bB (F := []) (A := [(A.mb, blk (cMm A acc { (cyc1 m) with pt := tickPt (cyc1 m).pt }) 156)]) (G := [(A.ub, blk (cU (cyc1 m).u) 247)]) (R := fun v H => v = .tuple #[] ∧ H = [(A.mb, blk (cMm A acc (askM 8 (nY (cyc1 m).pt) { (cyc1 m) with pt := tickPt (cyc1 m).pt })) 156)]) K_ rfl (fun w hw _ => ask_fnM A acc { (cyc1 m) with pt := tickPt (cyc1 m).pt } hA2 8 (nY (cyc1 m).pt) w hw)) rfl (ZAG ?_)
 refine ZAl ?_
 refine eW (L' := [(A.mb, blk (cMm A acc (cyc2 (cyc1 m))) 156), (A.ub, blk (cU (cyc2 (cyc1 m)).u) 247)]) (fun _ h => h.as (by rw [aTG]; rfl)) ?_
 refine ZBb ?_
 refine RZ (aK rfl rfl rfl (fun w hw => rowM_cp (m := (cyc2 (cyc1 m))) (acc := acc) (aA (b := A.mb) m_m w hw))) rfl (RLv K_ (wQ_ (aLY (cyc2 (cyc1 m)).cp q1.cp)) ?_)
 refine ZBb ?_
 refine ZCN fun b0 => ?_
 refine RZ (xS_ (l' := cCp (tickCp (cyc2 (cyc1 m)).cp)) 0) rfl (ZAC ?_)
 refine ZDH ?_
 refine ZDD ?_
 refine ZA1 ?_
 refine RZ (aD (l' := cMm A acc { (cyc2 (cyc1 m)) with cp := tickCp (cyc2 (cyc1 m)).cp }) 1 rfl rfl rfl rfl rfl rfl (by rw [cMm_len q1.ln]; exact ae rfl) (xD _)) rfl (ZEZ ?_)
 refine KC (fun q0 z0 => ?_) (fun q0 z0 => ?_)
 ·refine DR [4, 5, 6, 7] (pln [0, 2, 4, 6, 8, 10, 12, 15, 17]) ?_
  refine ZA1 ?_
  refine DL rfl rfl rfl (cJ (v := P_ A.ub) m_m (get_mid (m := ({ (cyc2 (cyc1 m)) with cp := tickCp (cyc2 (cyc1 m)).cp } : Mm)) hA3.ln (j := 14) rfl)) rfl (ZA1 ?_)
  refine DZ rfl (bJ K_ rfl (fun w hw => aFx A acc { (cyc2 (cyc1 m)) with cp := tickCp (cyc2 (cyc1 m)).cp } hA3 w (aA (b := A.mb) m_m w hw) (aA (b := A.ub) m_m w hw) (aN hr2 hd.1 w hw) (aN ho2 hd.2 w hw) _ (aOo _))) rfl y_d (DX rfl (bB (F := [(b0, blk (cCp (tickCp (cyc2 (cyc1 m)).cp)) 141), (A.mb, blk (cMm A acc { (cyc2 (cyc1 m)) with cp := tickCp (cyc2 (cyc1 m)).cp }) 156)]) (A := [(A.ub, blk (cU (cyc2 (cyc1 m)).u) 247)]) (G := []) (R := fun v H => v = .tuple #[] ∧ H = [(A.ub, blk (cU (kT (cyc2 (cyc1 m)).u (zT (cyc2 (cyc1 m)).cp) (lL (sC (cyc2 (cyc1 m)).cp) { (cyc2 (cyc1 m)) with cp := tickCp (cyc2 (cyc1 m)).cp }))) 247)]) K_ rfl (fun w hw _ => aKi A.ub (cyc2 (cyc1 m)).u q1.u.wf w hw (zT (cyc2 (cyc1 m)).cp) (lL (sC (cyc2 (cyc1 m)).cp) { (cyc2 (cyc1 m)) with cp := tickCp (cyc2 (cyc1 m)).cp }) (zH hA3 _))) rfl n_h (ZAG ?_))
  refine ZAl ?_
  refine eW (L' := [(b0, blk (cCp (tickCp (cyc2 (cyc1 m)).cp)) 141), (A.mb, blk (cMm A acc (cyc3 (cyc2 (cyc1 m)))) 156), (A.ub, blk (cU (cyc3 (cyc2 (cyc1 m))).u) 247)]) (fun _ h => h.as (by rw [aNU q0]; rfl)) ?_
  refine ZBn ?_
  refine ZC5 ?_
  refine ZDf ?_
  refine ZEZ ?_
  refine ZAv ?_
  refine ZAG ?_
  refine ZBn ?_
  refine RW (v := (.int .u8 (aH .u8 (tickV (cyc4 (cyc3 (cyc2 (cyc1 m)))).u) 1))) (bE rfl rfl) rfl rfl (ZAf ?_)
  refine ZAG ?_
  refine ZBb ?_
  refine RW (v := (.int .u8 (aH .u8 (tickV (cyc4 (cyc3 (cyc2 (cyc1 m)))).u) 2))) (bE rfl rfl) rfl rfl (ZAY ?_)
  refine ZAG ?_
  refine ZCl ?_
  refine ZDk ?_
  refine ZBL ?_
  refine KC (fun q1 z1 => ?_) (fun q1 z1 => ?_)
  ·refine ZBn ?_
   refine ZC3 ?_
   refine ZDU ?_
   refine ZAC ?_
   refine ZBL ?_
   exact EN (.cons _ sR_) ⟨rfl, by unfold cycleM; rw [show nJ (cyc5 (cyc4 (cyc3 (cyc2 (cyc1 m))))) = { (cyc5 (cyc4 (cyc3 (cyc2 (cyc1 m))))) with ck := tickCk (cyc5 (cyc4 (cyc3 (cyc2 (cyc1 m))))).ck } from if_pos q1]⟩
  refine ZBL ?_
  exact EN (.cons _ sR_) ⟨rfl, by unfold cycleM; rw [show nJ (cyc5 (cyc4 (cyc3 (cyc2 (cyc1 m))))) = (cyc5 (cyc4 (cyc3 (cyc2 (cyc1 m))))) from if_neg y_bP]⟩
 refine ZAl ?_
 obtain ⟨e8, e9⟩ := aRg q0
 refine eW (L' := [(b0, blk (cCp (tickCp (cyc2 (cyc1 m)).cp)) 141), (A.mb, blk (cMm A acc (cyc3 (cyc2 (cyc1 m)))) 156), (A.ub, blk (cU (cyc3 (cyc2 (cyc1 m))).u) 247)]) (fun _ h => h.as (by rw [e8]; exact cA_ (fun z => [(b0, blk (cCp (tickCp (cyc2 (cyc1 m)).cp)) 141), (A.mb, blk (cMm A acc z) 156), (A.ub, blk (cU (cyc2 (cyc1 m)).u) 247)]) e9)) ?_
 refine ZBn ?_
 refine ZC5 ?_
 refine ZDf ?_
 refine ZEZ ?_
 refine ZAv ?_
 refine ZAG ?_
 refine ZBn ?_
 refine RW (v := (.int .u8 (aH .u8 (tickV (cyc4 (cyc3 (cyc2 (cyc1 m)))).u) 1))) (bE rfl rfl) rfl rfl (ZAf ?_)
 refine ZAG ?_
 refine ZBb ?_
 refine RW (v := (.int .u8 (aH .u8 (tickV (cyc4 (cyc3 (cyc2 (cyc1 m)))).u) 2))) (bE rfl rfl) rfl rfl (ZAY ?_)
 refine ZAG ?_
 refine ZCl ?_
 refine ZDk ?_
 refine ZBL ?_
 refine KC (fun q2 z2 => ?_) (fun q2 z2 => ?_)
 ·refine ZBn ?_
  refine ZC3 ?_
  refine ZDU ?_
  refine ZAC ?_
  refine ZBL ?_
  exact EN (.cons _ sR_) ⟨rfl, by unfold cycleM; rw [show nJ (cyc5 (cyc4 (cyc3 (cyc2 (cyc1 m))))) = { (cyc5 (cyc4 (cyc3 (cyc2 (cyc1 m))))) with ck := tickCk (cyc5 (cyc4 (cyc3 (cyc2 (cyc1 m))))).ck } from if_pos q2]⟩
 refine ZBL ?_
 exact EN (.cons _ sR_) ⟨rfl, by unfold cycleM; rw [show nJ (cyc5 (cyc4 (cyc3 (cyc2 (cyc1 m))))) = (cyc5 (cyc4 (cyc3 (cyc2 (cyc1 m))))) from if_neg (by rw [q2]; decide)]⟩
def aQk (A : Ad) (acc : AH) (m : Mm) (h : m.Wf) (a x : Int) (ha : 0 ≤ a ∧ a < 65536) (hx : 0 ≤ x ∧ x < 256) (w : AI) (hst : St w [A.mb, A.ub, A.rb] [(A.mb, blk (cMm A acc m) 156), (A.ub, blk (cU m.u) 247), (A.rb, blk (List.map U_ m.ram ++ A.rs) 5)] w) : aB prog 340 [P_ A.mb, .int .u16 a, .int .u8 x] w [A.mb, A.ub, A.rb] (fun v H => v = .tuple #[] ∧ H = [(A.mb, blk (cMm A acc (iN a x m)) 156), (A.ub, blk (cU (iN a x m).u) 247), (A.rb, blk (List.map U_ (iN a x m).ram ++ A.rs) 5)]) := by
 have hl9 := h.lRam
 refine dO_ func340 hst ?_
 refine ZAl ?_
 rcases hc9 : clockB m.bk with _ | p
 ·refine ZBb ?_
  refine ZBS ?_
  refine ZE9 ?_
  refine ZCZ ?_
  refine ZBr ?_
  rcases hat9 : atB_ a m.bk with _ | n
  ·refine ZBb ?_
   refine ZBS ?_
   refine ZEh ?_
   rw [hat9]
   refine ZCZ ?_
   refine ZA1 ?_
   exact EN sR_ ⟨rfl, by unfold iN; rw [hc9]; dsimp only; rw [hat9]⟩
  refine ZBb ?_
  refine ZBS ?_
  refine ZEh ?_
  rw [hat9]
  refine ZEf ?_
  refine ZAQ ?_
  refine ZBn ?_
  have hn9 := aFi a hat9
  refine RZ (aE rfl rfl (aJ (v := .slice (Q_ A.rb) m.ram.length A.rc) m_m (get_mid (m := m) h.ln (j := 15) rfl))) rfl (ZAl ?_)
  refine RY (aP n.toNat rfl rfl rfl o_m o_m) rfl (RZ (aD (l' := List.map U_ (m.ram.set n.toNat x) ++ A.rs) 2 rfl rfl rfl rfl rfl rfl (by rw [La_, Lm_, ar]; omega) (by rw [bi, eA (by rw [Lm_, ar]; omega)]; exact cA_ (· ++ A.rs) (jM .u8 o_m _))) rfl ?_)
  refine ZAC ?_
  refine ZBL ?_
  exact EN sR_ ⟨rfl, by unfold iN; rw [hc9]; dsimp only; rw [hat9]; dsimp only; rw [aRO]⟩
 refine ZBb ?_
 refine ZBS ?_
 refine ZE9 ?_
 refine ZEf ?_
 refine ZAQ ?_
 refine A_9 ?_
 refine RZ (aK rfl rfl rfl (fun w hw => rowM_ck (m := m) (acc := acc) (aA (b := A.mb) m_m w hw))) rfl (ZAl ?_)
 refine RLv K_ (wQ_ (aIK m.ck h.ck p x hx)) ?_
 refine ZA1 ?_
 refine RZ (aD (l' := cMm A acc { m with ck := writeCk p x m.ck }) 0 rfl rfl rfl rfl rfl rfl y_w (putM_ck _)) rfl (ZBU ?_)
 exact EN sR_ ⟨rfl, by unfold iN; rw [hc9]⟩
def aFG (A : Ad) (acc : AH) (m : Mm) (h : m.Wf) (a x : Int) (ha : 65280 ≤ a ∧ a < 65536) (hx : 0 ≤ x ∧ x < 256) (w : AI) (hst : St w [A.mb] [(A.mb, blk (cMm A acc m) 156)] w) : aB prog 341 [P_ A.mb, .int .u16 a, .int .u8 x] w [A.mb] (fun v H => v = .tuple #[] ∧ H = [(A.mb, blk (cMm A acc (setDeviceM a x m)) 156)]) := by
 have hP : MLn ({ m with pd := lN x m.pd } : Mm) := ⟨h.ln.bd, h.ln.work, h.ln.high⟩
 refine dO_ func341 hst ?_
 refine ZA1 ?_
 refine ZAX ?_
 refine A_9 ?_
 refine KC (fun q0 z0 => ?_) (fun q0 z0 => ?_)
 ·refine A_11 ?_
  refine RZ (aK rfl rfl rfl (fun w hw => aDw (m := m) (acc := acc) (aA (b := A.mb) m_m w hw))) rfl (ZBL ?_)
  refine RLv K_ (wQ_ (aPb m.pd x)) ?_
  refine ZBn ?_
  refine RZ (aD (l' := cMm A acc { m with pd := lN x m.pd }) 0 rfl rfl rfl rfl rfl rfl y_w (aHW _)) rfl (ZAC ?_)
  refine ZBb ?_
  refine RX (bB (F := []) (A := [(A.mb, blk (cMm A acc { m with pd := lN x m.pd }) 156)]) (G := []) (R := fun v H => v = .tuple #[] ∧ H = [(A.mb, blk (cMm A acc (askM 16 (nP m.pd (lN x m.pd)) { m with pd := lN x m.pd })) 156)]) K_ rfl (fun w hw _ => ask_fnM A acc { m with pd := lN x m.pd } hP 16 (nP m.pd (lN x m.pd)) w hw)) rfl (ZAG ?_)
  exact ZBc
 refine ZBn ?_
 refine KC (fun q1 z1 => ?_) (fun q1 z1 => ?_)
 ·refine ZBn ?_
  refine RZ (aK rfl rfl rfl (fun w hw => aDs (m := m) (acc := acc) (aA (b := A.mb) m_m w hw))) rfl (ZBL ?_)
  refine ZBg ?_
  refine ZBL ?_
  refine RLv K_ (wQ_ (aIL m.pt h.pt _ x hx)) ?_
  refine ZA1 ?_
  refine RZ (aD (l' := cMm A acc { m with pt := writePt (a - 65281) x m.pt }) 0 rfl rfl rfl rfl rfl rfl y_w (aHw _)) rfl (ZAC ?_)
  exact ZBc
 refine ZBr ?_
 refine KL (fun q2 z2 => ?_) (fun q2 z2 => ?_)
 ·refine ZBb ?_
  refine KC (fun q3 z3 => ?_) (fun q3 z3 => ?_)
  ·refine ZBn ?_
   refine RZ (aK rfl rfl rfl (fun w hw => aDO (m := m) (acc := acc) (aA (b := A.mb) m_m w hw))) rfl (ZBL ?_)
   refine ZBg ?_
   refine ZBL ?_
   refine RLv K_ (wQ_ (aIy m.tm h.tm _ x hx)) ?_
   refine ZA1 ?_
   refine RZ (aD (l' := cMm A acc { m with tm := writeTm (a - 65284) x m.tm }) 0 rfl rfl rfl rfl rfl rfl y_w (aIb _)) rfl (ZAC ?_)
   exact ZBc
  refine ZBn ?_
  refine KC (fun q4 z4 => ?_) (fun q4 z4 => ?_)
  ·refine ZA1 ?_
   refine RW (v := (.int .u8 (aH .u8 x 31))) (bE rfl rfl) rfl rfl (ZA1 ?_)
   refine RZ (aD (l' := cMm A acc { m with flags := aH .u8 x 31 }) 0 rfl rfl rfl rfl rfl rfl y_w (qR h.ln _)) rfl (ZAC ?_)
   exact ZBc
  refine ZBr ?_
  refine KL (fun q5 z5 => ?_) (fun q5 z5 => ?_)
  ·refine ZBb ?_
   refine KC (fun q6 z6 => ?_) (fun q6 z6 => ?_)
   ·refine ZBn ?_
    refine RZ (aK rfl rfl y_cY (fun w hw => rowM_bd (m := m) (acc := acc) (aA (b := A.mb) m_m w hw))) rfl (ZBL ?_)
    refine ZBg ?_
    refine ZBL ?_
    refine RLv K_ (wQ_ (aC6 m.bd h.bd _ x hx)) ?_
    refine ZA1 ?_
    refine RZ (aD (l' := cMm A acc { m with bd := writeBd (a - 65296) x m.bd }) 0 rfl rfl rfl y_dG (ones_cBd _) rfl y_cA (putM_bd h.ln (h.bd.write (a - 65296) hx).ln)) rfl (ZAC ?_)
    exact ZBc
   refine ZBn ?_
   refine KC (fun q7 z7 => ?_) (fun q7 z7 => ?_)
   ·refine ZBn ?_
    refine RZ (aK rfl rfl rfl (fun w hw => rowM_cp (m := m) (acc := acc) (aA (b := A.mb) m_m w hw))) rfl (ZBL ?_)
    refine RLv K_ (wQ_ (tM m.cp x)) ?_
    refine ZA1 ?_
    refine RZ (aD (l' := cMm A acc { m with cp := tQ x }) 0 rfl rfl rfl rfl rfl rfl y_w (xD _)) rfl (ZAC ?_)
    exact ZBc
   refine ZBn ?_
   refine KC (fun q8 z8 => ?_) (fun q8 z8 => ?_)
   ·refine ZBn ?_
    refine RZ (aD (l' := cMm A acc { m with lets := x }) 0 rfl rfl rfl rfl rfl rfl y_w (sX h.ln _)) rfl (ZAC ?_)
    exact ZBc
   refine ZBn ?_
   refine KC (fun q9 z9 => ?_) (fun q9 z9 => ?_)
   ·refine ZA1 ?_
    refine RW (iV rfl rfl) rfl y_q (ZA1 ?_)
    refine RY (aQ (a - 65408).toNat rfl rfl rfl o_m o_m) rfl (RZ (aD (l' := cMm A acc { m with high := m.high.set (a - 65408).toNat x }) 0 rfl rfl rfl rfl rfl rfl y_bi (putM_high h.ln o_m _)) rfl (ZAC ?_))
    exact ZBc
   exact ZBc
  refine A_12 ?_
  refine KC (fun q6 z6 => ?_) (fun q6 z6 => ?_)
  ·refine ZBn ?_
   refine RZ (aK rfl rfl rfl (fun w hw => rowM_cp (m := m) (acc := acc) (aA (b := A.mb) m_m w hw))) rfl (ZBL ?_)
   refine RLv K_ (wQ_ (tM m.cp x)) ?_
   refine ZA1 ?_
   refine RZ (aD (l' := cMm A acc { m with cp := tQ x }) 0 rfl rfl rfl rfl rfl rfl y_w (xD _)) rfl (ZAC ?_)
   exact ZBc
  refine ZBn ?_
  refine KC (fun q7 z7 => ?_) (fun q7 z7 => ?_)
  ·refine ZBn ?_
   refine RZ (aD (l' := cMm A acc { m with lets := x }) 0 rfl rfl rfl rfl rfl rfl y_w (sX h.ln _)) rfl (ZAC ?_)
   exact ZBc
  refine ZBn ?_
  exact ZBd
 refine A_12 ?_
 refine KC (fun q3 z3 => ?_) (fun q3 z3 => ?_)
 ·refine ZA1 ?_
  refine RW (v := (.int .u8 (aH .u8 x 31))) (bE rfl rfl) rfl rfl (ZA1 ?_)
  refine RZ (aD (l' := cMm A acc { m with flags := aH .u8 x 31 }) 0 rfl rfl rfl rfl rfl rfl y_w (qR h.ln _)) rfl (ZAC ?_)
  exact ZBc
 refine ZBr ?_
 refine KL (fun q4 z4 => ?_) (fun q4 z4 => ?_)
 ·refine ZBb ?_
  refine KC (fun q5 z5 => ?_) (fun q5 z5 => ?_)
  ·refine ZBn ?_
   refine RZ (aK rfl rfl y_cY (fun w hw => rowM_bd (m := m) (acc := acc) (aA (b := A.mb) m_m w hw))) rfl (ZBL ?_)
   refine ZBg ?_
   refine ZBL ?_
   refine RLv K_ (wQ_ (aC6 m.bd h.bd _ x hx)) ?_
   refine ZA1 ?_
   refine RZ (aD (l' := cMm A acc { m with bd := writeBd (a - 65296) x m.bd }) 0 rfl rfl rfl y_dG (ones_cBd _) rfl y_cA (putM_bd h.ln (h.bd.write (a - 65296) hx).ln)) rfl (ZAC ?_)
   exact ZBc
  refine ZBn ?_
  refine KC (fun q6 z6 => ?_) (fun q6 z6 => ?_)
  ·refine ZBn ?_
   refine RZ (aK rfl rfl rfl (fun w hw => rowM_cp (m := m) (acc := acc) (aA (b := A.mb) m_m w hw))) rfl (ZBL ?_)
   refine RLv K_ (wQ_ (tM m.cp x)) ?_
   refine ZA1 ?_
   refine RZ (aD (l' := cMm A acc { m with cp := tQ x }) 0 rfl rfl rfl rfl rfl rfl y_w (xD _)) rfl (ZAC ?_)
   exact ZBc
  refine ZBn ?_
  refine KC (fun q7 z7 => ?_) (fun q7 z7 => ?_)
  ·refine ZBn ?_
   refine RZ (aD (l' := cMm A acc { m with lets := x }) 0 rfl rfl rfl rfl rfl rfl y_w (sX h.ln _)) rfl (ZAC ?_)
   exact ZBc
  refine ZBn ?_
  exact ZBd
 refine A_12 ?_
 refine KC (fun q5 z5 => ?_) (fun q5 z5 => ?_)
 ·refine ZBn ?_
  refine RZ (aK rfl rfl rfl (fun w hw => rowM_cp (m := m) (acc := acc) (aA (b := A.mb) m_m w hw))) rfl (ZBL ?_)
  refine RLv K_ (wQ_ (tM m.cp x)) ?_
  refine ZA1 ?_
  refine RZ (aD (l' := cMm A acc { m with cp := tQ x }) 0 rfl rfl rfl rfl rfl rfl y_w (xD _)) rfl (ZAC ?_)
  exact ZBc
 refine ZBn ?_
 refine KC (fun q6 z6 => ?_) (fun q6 z6 => ?_)
 ·refine ZBn ?_
  refine RZ (aD (l' := cMm A acc { m with lets := x }) 0 rfl rfl rfl rfl rfl rfl y_w (sX h.ln _)) rfl (ZAC ?_)
  exact ZBc
 refine ZBn ?_
 refine KC (fun q7 z7 => ?_) (fun q7 z7 => ?_)
 ·refine ZA1 ?_
  refine RW (iV rfl rfl) rfl y_q (ZA1 ?_)
  refine RY (aQ (a - 65408).toNat rfl rfl rfl o_m o_m) rfl (RZ (aD (l' := cMm A acc { m with high := m.high.set (a - 65408).toNat x }) 0 rfl rfl rfl rfl rfl rfl y_bi (putM_high h.ln o_m _)) rfl (ZAC ?_))
  exact ZBc
 exact ZBc
def aRi (A : Ad) (acc : AH) (m : Mm) (h : m.Wf) (a x : Int) (ha : 0 ≤ a ∧ a < 65536) (hx : 0 ≤ x ∧ x < 256) (w : AI) (hst : St w [A.mb, A.ub, A.rb] [(A.mb, blk (cMm A acc m) 156), (A.ub, blk (cU m.u) 247), (A.rb, blk (List.map U_ m.ram ++ A.rs) 5)] w) : aB prog 329 [P_ A.mb, .int .u16 a, .int .u8 x] w [A.mb, A.ub, A.rb] (fun v H => v = .tuple #[] ∧ H = [(A.mb, blk (cMm A acc (pokeM a x m)) 156), (A.ub, blk (cU (pokeM a x m).u) 247), (A.rb, blk (List.map U_ (pokeM a x m).ram ++ A.rs) 5)]) := by
 have hB1 : MLn ({ m with bk := writeB a x m.bk } : Mm) := ⟨h.ln.bd, h.ln.work, h.ln.high⟩
 have hU1 : MLn ({ m with u := fO m.u a x } : Mm) := ⟨h.ln.bd, h.ln.work, h.ln.high⟩
 refine dO_ func329 hst ?_
 refine ZDH ?_
 refine KC (fun q0 z0 => ?_) (fun q0 z0 => ?_)
 ·refine A_11 ?_
  refine ZBS ?_
  refine ZAl ?_
  refine RLv K_ (wQ_ (aLJ m.bk h.bk a x ha hx)) ?_
  refine ZBn ?_
  refine RZ (aD (l' := cMm A acc { m with bk := writeB a x m.bk }) 0 rfl rfl rfl rfl rfl rfl y_w (aId _)) rfl (ZEZ ?_)
  refine KC (fun q1 z1 => ?_) (fun q1 z1 => ?_)
  ·refine ZBn ?_
   refine RZ (aK rfl rfl rfl (fun w hw => rowM_ck (m := ({ m with bk := writeB a x m.bk } : Mm)) (acc := acc) (aA (b := A.mb) m_m w hw))) rfl (RLv K_ (wQ_ (aLV m.ck h.ck)) ?_)
   refine ZA1 ?_
   refine RZ (aD (l' := cMm A acc { m with bk := writeB a x m.bk, ck := uD m.ck }) 0 rfl rfl rfl rfl rfl rfl (by rw [cMm_len hB1]; exact ae rfl) (putM_ck _)) rfl (ZAC ?_)
   refine ZBL ?_
   exact EN sR_ ⟨rfl, by rw [show pokeM a x m = { m with bk := writeB a x m.bk, ck := uD m.ck } from by unfold pokeM; rw [if_pos o_m]; unfold nI; rw [if_pos q1]]⟩
  refine ZBL ?_
  exact EN sR_ ⟨rfl, by rw [show pokeM a x m = { m with bk := writeB a x m.bk } from by unfold pokeM; rw [if_pos o_m]; unfold nI; rw [if_neg y_bP]]⟩
 refine ZA1 ?_
 refine RLv K_ (wQ_ (wK a ha)) ?_
 refine ZAl ?_
 refine KC (fun q1 z1 => ?_) (fun q1 z1 => ?_)
 ·refine ZBb ?_
  refine RZ (aE rfl rfl (aJ (v := P_ A.ub) m_m (get_mid (m := m) h.ln (j := 14) rfl))) rfl (ZAl ?_)
  refine RX (bB (F := [(A.mb, blk (cMm A acc m) 156)]) (A := [(A.ub, blk (cU m.u) 247)]) (G := [(A.rb, blk (List.map U_ m.ram ++ A.rs) 5)]) (R := fun v H => v = .int .u8 (jQ m.u a x) ∧ H = [(A.ub, blk (cU (fO m.u a x)) 247)]) K_ rfl (fun w hw _ => aOJ A.ub m.u h.u.wf w hw a x ha hx)) rfl (ZDV ?_)
  refine RW (v := (.int .u8 (aH .u8 (jQ m.u a x) 2))) (bE rfl rfl) rfl rfl (ZBL ?_)
  refine RX (bB (F := []) (A := [(A.mb, blk (cMm A acc { m with u := fO m.u a x }) 156)]) (G := [(A.ub, blk (cU (fO m.u a x)) 247), (A.rb, blk (List.map U_ m.ram ++ A.rs) 5)]) (R := fun v H => v = .tuple #[] ∧ H = [(A.mb, blk (cMm A acc (askM 2 (aH .u8 (jQ m.u a x) 2 != 0) { m with u := fO m.u a x })) 156)]) K_ rfl (fun w hw _ => ask_fnM A acc { m with u := fO m.u a x } hU1 2 (aH .u8 (jQ m.u a x) 2 != 0) w hw)) rfl (ZDV ?_)
  refine ZBL ?_
  exact EN sR_ ⟨rfl, by rw [show pokeM a x m = askM 2 (aH .u8 (jQ m.u a x) 2 != 0) { m with u := fO m.u a x } from by unfold pokeM; rw [if_neg o_m, if_pos q1]]; rw [uV, pA]⟩
 refine ZBn ?_
 refine KC (fun q2 z2 => ?_) (fun q2 z2 => ?_)
 ·refine ZBr ?_
  refine RX (bB (F := []) (A := [(A.mb, blk (cMm A acc m) 156), (A.ub, blk (cU m.u) 247), (A.rb, blk (List.map U_ m.ram ++ A.rs) 5)]) (G := []) (R := fun v H => v = .tuple #[] ∧ H = [(A.mb, blk (cMm A acc (iN a x m)) 156), (A.ub, blk (cU (iN a x m).u) 247), (A.rb, blk (List.map U_ (iN a x m).ram ++ A.rs) 5)]) K_ rfl (wA_ (aQk A acc m h a x ha hx))) rfl (ZDV ?_)
  refine ZBL ?_
  exact EN sR_ ⟨rfl, by rw [show pokeM a x m = iN a x m from by unfold pokeM; rw [if_neg o_m, if_neg y_bP, if_pos o_m]]⟩
 refine ZBn ?_
 refine KC (fun q3 z3 => ?_) (fun q3 z3 => ?_)
 ·refine ZA1 ?_
  refine ZBY ?_
  refine ZA1 ?_
  refine RY (aQ (a % 8192).toNat rfl rfl rfl o_m o_m) rfl (RZ (aD (l' := cMm A acc { m with work := m.work.set (a % 8192).toNat x }) 0 rfl rfl rfl rfl rfl rfl y_bi (aJX h.ln o_m _)) rfl (ZAC ?_))
  refine ZBL ?_
  exact EN sR_ ⟨rfl, by rw [show pokeM a x m = { m with work := m.work.set (a % 8192).toNat x } from by unfold pokeM; rw [if_neg o_m, if_neg y_bP, if_neg o_m, if_pos o_m]]⟩
 refine ZBn ?_
 refine KC (fun q4 z4 => ?_) (fun q4 z4 => ?_)
 ·refine ZBr ?_
  refine RX (bB (F := []) (A := [(A.mb, blk (cMm A acc m) 156)]) (G := [(A.ub, blk (cU m.u) 247), (A.rb, blk (List.map U_ m.ram ++ A.rs) 5)]) (R := fun v H => v = .tuple #[] ∧ H = [(A.mb, blk (cMm A acc (setDeviceM a x m)) 156)]) K_ rfl (wA_ (aFG A acc m h a x o_m hx))) rfl (ZDV ?_)
  refine ZBL ?_
  exact EN sR_ ⟨rfl, by rw [show pokeM a x m = setDeviceM a x m from by unfold pokeM; rw [if_neg o_m, if_neg y_bP, if_neg o_m, if_neg o_m, if_neg o_m]]; rw [aGk, aDq]⟩
 refine ZBL ?_
 exact EN sR_ ⟨rfl, by rw [show pokeM a x m = m from by unfold pokeM; rw [if_neg o_m, if_neg y_bP, if_neg o_m, if_neg o_m, if_pos o_m]]⟩
def note_fn (A : Ad) (m : Mm) (hl : MLn m) (hm9 : m.acc.length + 1 ≤ 1000000) (va : AH) (Ga R : aC) (hV : Vec 298 3 va m.acc.length (aF cAc m.acc) Ga) (k a x : Int) (w : AI) (hst : St w ((Ga ++ (A.mb, blk (cMm A va m) 156) :: R).map (·.1)) (Ga ++ (A.mb, blk (cMm A va m) 156) :: R) w) : aB prog 319 [.agg #[P_ A.mb], .int .i64 k, .int .u16 a, .int .u8 x] w ((Ga ++ (A.mb, blk (cMm A va m) 156) :: R).map (·.1)) (fun v H => v = .int .u8 x ∧ ∃ va' Ga', Vec 298 3 va' (m.acc.length + 1) (aF cAc (m.acc ++ [⟨k, a, x⟩])) Ga' ∧ H = Ga' ++ (A.mb, blk (cMm A va' m) 156) :: R) := by
 obtain ⟨a9, c0, rfl⟩ := hV.slice
 refine dO_ func319 hst ?_
 refine ZAl ?_
 refine ZBv fun b0 => ?_
 refine ZA1 ?_
 refine iE [(b0, blk [P_ A.mb] 268), (A.mb, blk (cMm A (.slice a9 m.acc.length c0) m) 156)] [2, 3, 4, 5, 6, 7, 8, 9, 10, 11, 12] (.step true 0 (.step true 1 (.step true 2 (.step true 3 (.step true 4 (.step true 5 (.step true 6 (.step true 7 (.step true 8 (.step true 9 (.step true 10 (.step false 11 (.step false 12 (.step true 13 (.step true 14 (.step false 15 .done)))))))))))))))) rfl y_f y_f (fun x hx => y_m) ?_
 refine ZBn ?_
 refine DL rfl rfl rfl (cJ (v := .slice a9 m.acc.length c0) m_m (aIc hl)) rfl (ZA1 ?_)
 refine ZED ?_
 refine DX rfl (dX (z := [.int .i64 0, .int .u16 0, .int .u8 0]) (l := cAc ⟨k, a, x⟩) (ps := [(0, .agg (cAc ⟨k, a, x⟩).toArray)]) rfl rfl rfl rfl rfl rfl) rfl y_eI ?_
 rintro _ _ ⟨b1, rfl, rfl⟩
 refine DX rfl (gD (A := [(b1, _), (b0, _)]) (G := Ga) (R := (A.mb, _) :: R) (v := .slice a9 m.acc.length c0) (n := m.acc.length) (xs := aF cAc m.acc) (m := 1) (T := 298) (s := 3) (by_ := 16) (ys := cAc ⟨k, a, x⟩) rfl rfl rfl rfl hV (fun w hw => .row _ _ _ _ _ rfl (aA (b := b1) (.head _) w hw)) rfl o_m o_m) rfl (by intro _ _ _ hK; obtain ⟨G9, hV9, _, rfl⟩ := hK; exact (fun x hx => y_m)) ?_
 rintro v0 _ ⟨G0, hV0, _, rfl⟩
 obtain ⟨b2, cp9, sp0, rfl, rfl, hc0, hle9, hm9⟩ := hV0.full o_m
 refine ZDb ?_
 refine DZ rfl (aD (l' := cMm A (.slice (Q_ b2) (m.acc.length + 1) cp9) m) 3 rfl rfl rfl rfl rfl rfl (by rw [cMm_len hl]; exact ae rfl) (aBV hl _)) rfl n_h (c_u ?_)
 refine ZDH ?_
 exact EV rfl (.cons_cons _ (.cons _ (.cons _ sR_))) ⟨rfl, _, _, hV0.as rfl (jI _ _).symm, rfl⟩
def seen_fn (A : Ad) (acc : AH) (m : Mm) (h : m.Wf) (a : Int) (ha : 0 ≤ a ∧ a < 65536) (w : AI) (hst : St w [A.mb, A.ub] [(A.mb, blk (cMm A acc m) 156), (A.ub, blk (cU m.u) 247)] w) (hr : Row w A.rb 0 (m.ram.map (.int .u8))) (ho : Row w A.ob 0 (m.rom.map (.int .u8))) (hd : A.rb ∉ [A.mb, A.ub] ∧ A.ob ∉ [A.mb, A.ub]) : aB prog 320 [.agg #[P_ A.mb], .int .u16 a] w [A.mb, A.ub] (fun v H => v = .int .u8 (seenM a (cycleM m)) ∧ H = [(A.mb, blk (cMm A acc (cycleM m)) 156), (A.ub, blk (cU (cycleM m).u) 247)]) := by
 have hc := h.cycle
 have hr2 : Row w A.rb 0 ((cycleM m).ram.map (.int .u8)) := by rw [cycleM_ram]; exact hr
 have ho2 : Row w A.ob 0 ((cycleM m).rom.map (.int .u8)) := by rw [cycleM_rom]; exact ho
 refine dO_ func320 hst ?_
 refine ZAl ?_
 refine ZBv fun b0 => ?_
 refine ZBn ?_
 refine RX (bB (F := [(b0, blk [P_ A.mb] 268)]) (A := [(A.mb, blk (cMm A acc m) 156), (A.ub, blk (cU m.u) 247)]) (G := []) (R := fun v H => v = .tuple #[] ∧ H = [(A.mb, blk (cMm A acc (cycleM m)) 156), (A.ub, blk (cU (cycleM m).u) 247)]) K_ rfl (fun w hw hw2 => cycle_fn A acc m h w hw (aN hr hd.1 w hw2) (aN ho hd.2 w hw2) hd)) rfl (ZAG ?_)
 refine A_10 ?_
 refine RZ (aK rfl rfl rfl (fun w hw => rowM_cp (m := (cycleM m)) (acc := acc) (aA (b := A.mb) m_m w hw))) rfl (ZBL ?_)
 refine RLv K_ (wQ_ (aDS (cycleM m).cp hc.cp a)) ?_
 refine ZA1 ?_
 refine KC (fun q0 z0 => ?_) (fun q0 z0 => ?_)
 ·refine ZBb ?_
  exact EV rfl (.cons _ sR_) ⟨cA_ U_ (by unfold seenM; rw [if_pos (by simpa using q0)]), rfl⟩
 refine ZA1 ?_
 refine RLv K_ (wQ_ (wK a ha)) ?_
 refine ZAl ?_
 refine KC (fun q1 z1 => ?_) (fun q1 z1 => ?_)
 ·refine ZBn ?_
  refine RZ (aE rfl rfl (aJ (v := P_ A.ub) m_m (get_mid (m := (cycleM m)) hc.ln (j := 14) rfl))) rfl (ZBL ?_)
  refine RLv K_ (fun w hw => aQQ A.ub (cycleM m).u hc.u.wf w (aA (b := A.ub) m_m w hw) a ha) ?_
  refine ZA1 ?_
  exact EV rfl (.cons _ sR_) ⟨cA_ U_ (by unfold seenM; rw [if_neg y_c0, if_pos q1]), rfl⟩
 refine ZBn ?_
 refine RLv K_ (fun w hw => aFx A acc (cycleM m) hc w (aA (b := A.mb) m_m w hw) (aA (b := A.ub) m_m w hw) (aN hr2 hd.1 w hw) (aN ho2 hd.2 w hw) a ha) ?_
 refine ZA1 ?_
 exact EV rfl (.cons _ sR_) ⟨cA_ U_ (by unfold seenM; rw [if_neg y_c0, if_neg y_bP]), rfl⟩
def aHk {n : Nat} (A : Ad) (hd : A.rb ∉ [A.mb, A.ub] ∧ A.ob ∉ [A.mb, A.ub]) (m : Mm) (hm : gN (n + 1) m) (H : aC) (hr : rO A m H) (a : Int) (ha : 0 ≤ a ∧ a < 65536) (w : AI) (hst : St w (H.map (·.1)) H w) : aB prog 314 [.agg #[P_ A.mb], .int .u16 a] w (H.map (·.1)) (fun v H' => v = .int .u8 (dY.fetch a m).1 ∧ rO A (dY.fetch a m).2 H') := by
 obtain ⟨va, Ga, hV, rfl⟩ := hr
 have h := hm.wf
 have hroom := hm.room
 have hc := h.cycle
 refine ZBH fun hVc hrc => ?_
 refine dO_ func314 hst ?_
 refine ZAl ?_
 refine ZBv fun b0 => ?_
 refine ZA1 ?_
 refine ZCs ?_
 refine ZBL ?_
 refine cL rfl rfl rfl rfl y_bC rfl rfl ?_
 refine ZA7 ?_
 refine ZAG ?_
 refine DX rfl (aR (F := [(b0, _)]) (A := Ga ++ (A.mb, blk (cMm A va (cycleM m)) 156) :: [(A.ub, blk (cU (cycleM m).u) 247), (A.rb, blk (List.map U_ m.ram ++ A.rs) 5), (A.ob, blk (List.map U_ m.rom ++ A.sp) 5)]) (R := fun v H => v = .int .u8 (seenM a (cycleM m)) ∧ ∃ va' Ga', Vec 298 3 va' ((cycleM m).acc.length + 1) (aF cAc ((cycleM m).acc ++ [⟨3, a, (seenM a (cycleM m))⟩])) Ga' ∧ H = Ga' ++ (A.mb, blk (cMm A va' (cycleM m)) 156) :: [(A.ub, blk (cU (cycleM m).u) 247), (A.rb, blk (List.map U_ m.ram ++ A.rs) 5), (A.ob, blk (List.map U_ m.rom ++ A.sp) 5)]) K_ rfl (wL_ (note_fn A (cycleM m) hc.ln hrc va Ga _ hVc 3 a (seenM a (cycleM m))))) rfl y_ex ?_
 rintro _ _ ⟨_, ⟨rfl, va', Ga', hV', rfl⟩, rfl⟩
 refine ZA1 ?_
 exact EV rfl (.cons _ sR_) ⟨rfl, va', Ga', hV'.as y_cm rfl, y_4⟩
def aID {n : Nat} (A : Ad) (hd : A.rb ∉ [A.mb, A.ub] ∧ A.ob ∉ [A.mb, A.ub]) (m : Mm) (hm : gN (n + 1) m) (H : aC) (hr : rO A m H) (a : Int) (ha : 0 ≤ a ∧ a < 65536) (w : AI) (hst : St w (H.map (·.1)) H w) : aB prog 317 [.agg #[P_ A.mb], .int .u16 a] w (H.map (·.1)) (fun v H' => v = .int .u8 (dY.read a m).1 ∧ rO A (dY.read a m).2 H') := by
 obtain ⟨va, Ga, hV, rfl⟩ := hr
 have h := hm.wf
 have hroom := hm.room
 have hc := h.cycle
 refine ZBH fun hVc hrc => ?_
 refine dO_ func317 hst ?_
 refine ZAl ?_
 refine ZBv fun b0 => ?_
 refine ZA1 ?_
 refine ZCs ?_
 refine ZBL ?_
 refine cL rfl rfl rfl rfl y_bC rfl rfl ?_
 refine ZA7 ?_
 refine ZAG ?_
 refine DX rfl (aR (F := [(b0, _)]) (A := Ga ++ (A.mb, blk (cMm A va (cycleM m)) 156) :: [(A.ub, blk (cU (cycleM m).u) 247), (A.rb, blk (List.map U_ m.ram ++ A.rs) 5), (A.ob, blk (List.map U_ m.rom ++ A.sp) 5)]) (R := fun v H => v = .int .u8 (seenM a (cycleM m)) ∧ ∃ va' Ga', Vec 298 3 va' ((cycleM m).acc.length + 1) (aF cAc ((cycleM m).acc ++ [⟨1, a, (seenM a (cycleM m))⟩])) Ga' ∧ H = Ga' ++ (A.mb, blk (cMm A va' (cycleM m)) 156) :: [(A.ub, blk (cU (cycleM m).u) 247), (A.rb, blk (List.map U_ m.ram ++ A.rs) 5), (A.ob, blk (List.map U_ m.rom ++ A.sp) 5)]) K_ rfl (wL_ (note_fn A (cycleM m) hc.ln hrc va Ga _ hVc 1 a (seenM a (cycleM m))))) rfl y_ex ?_
 rintro _ _ ⟨_, ⟨rfl, va', Ga', hV', rfl⟩, rfl⟩
 refine ZA1 ?_
 exact EV rfl (.cons _ sR_) ⟨rfl, va', Ga', hV'.as y_cm rfl, y_4⟩
def aIp {n : Nat} (A : Ad) (hd : A.rb ∉ [A.mb, A.ub] ∧ A.ob ∉ [A.mb, A.ub]) (m : Mm) (hm : gN (n + 1) m) (H : aC) (hr : rO A m H) (w : AI) (hst : St w (H.map (·.1)) H w) : aB prog 315 [.agg #[P_ A.mb]] w (H.map (·.1)) (fun v H' => v = .tuple #[] ∧ rO A (dY.idle m) H') := by
 obtain ⟨va, Ga, hV, rfl⟩ := hr
 have h := hm.wf
 have hroom := hm.room
 have hc := h.cycle
 refine ZBH fun hVc hrc => ?_
 refine dO_ func315 hst ?_
 refine ZAl ?_
 refine ZBv fun b0 => ?_
 refine ZBB ?_
 refine ZAG ?_
 refine ZAl ?_
 refine RZ (aK rfl rfl rfl y_ck) rfl (RX (aR (F := [(b0, _)]) (A := Ga ++ (A.mb, blk (cMm A va (cycleM m)) 156) :: [(A.ub, blk (cU (cycleM m).u) 247), (A.rb, blk (List.map U_ m.ram ++ A.rs) 5), (A.ob, blk (List.map U_ m.rom ++ A.sp) 5)]) (R := fun v H => v = .int .u8 0 ∧ ∃ va' Ga', Vec 298 3 va' ((cycleM m).acc.length + 1) (aF cAc ((cycleM m).acc ++ [⟨0, 0, 0⟩])) Ga' ∧ H = Ga' ++ (A.mb, blk (cMm A va' (cycleM m)) 156) :: [(A.ub, blk (cU (cycleM m).u) 247), (A.rb, blk (List.map U_ m.ram ++ A.rs) 5), (A.ob, blk (List.map U_ m.rom ++ A.sp) 5)]) K_ rfl (wL_ (note_fn A (cycleM m) hc.ln hrc va Ga _ hVc 0 0 0))) rfl ?_)
 rintro _ _ ⟨_, ⟨rfl, va', Ga', hV', rfl⟩, rfl⟩
 refine ZBL ?_
 exact EN (.cons _ sR_) ⟨rfl, va', Ga', hV'.as y_cm rfl, y_4⟩
def aEU {n : Nat} (A : Ad) (hd : A.rb ∉ [A.mb, A.ub] ∧ A.ob ∉ [A.mb, A.ub]) (m : Mm) (hm : gN n m) (H : aC) (hr : rO A m H) (w : AI) (hst : St w (H.map (·.1)) H w) : aB prog 316 [.agg #[P_ A.mb]] w (H.map (·.1)) (fun v H' => v = .int .u8 (dY.pend m) ∧ H' = H) := by
 obtain ⟨va, Ga, hV, rfl⟩ := hr
 have h := hm.wf
 refine dO_ func316 hst ?_
 refine ZAl ?_
 refine ZBv fun b0 => ?_
 refine ZA1 ?_
 refine DR [6, 7, 8, 9, 10, 11] (pln [0, 2, 4, 6, 8, 10, 12, 14, 16, 18, 20, 22, 24, 26, 28]) ?_
 refine ZBb ?_
 refine DL rfl rfl rfl (cJ (v := .int .u8 m.flags) m_m (get_mid h.ln (j := 0) rfl)) rfl (ZBb ?_)
 refine DL rfl rfl rfl (cJ (v := .int .u8 m.lets) m_m (get_mid h.ln (j := 1) rfl)) rfl (DW (v := (.int .u8 (aH .u8 m.flags m.lets))) rfl (bE rfl rfl) rfl rfl (DW (v := (.int .u8 (dY.pend m))) rfl (bE rfl rfl) rfl rfl (ZA1 ?_)))
 exact EV rfl (.cons _ sR_) ⟨rfl, rfl⟩
def aKk {n : Nat} (A : Ad) (hd : A.rb ∉ [A.mb, A.ub] ∧ A.ob ∉ [A.mb, A.ub]) (m : Mm) (hm : gN n m) (H : aC) (hr : rO A m H) (k : Int) (hk : 0 ≤ k ∧ k < 5) (w : AI) (hst : St w (H.map (·.1)) H w) : aB prog 313 [.agg #[P_ A.mb], .int .i64 k] w (H.map (·.1)) (fun v H' => v = .tuple #[] ∧ rO A (dY.ack k m) H') := by
 obtain ⟨va, Ga, hV, rfl⟩ := hr
 have h := hm.wf
 refine dO_ func313 hst ?_
 refine ZBL ?_
 refine eW (fun w hw => hw.perm aw) ?_
 refine ZBt ?_
 refine ZBL ?_
 refine ZBv fun b0 => ?_
 refine ZBL ?_
 refine DR [6, 7] (pln [0, 2, 4, 6, 8, 10, 12, 14, 16, 18, 20, 22, 25]) ?_
 refine ZBb ?_
 refine DL rfl rfl rfl (cJ (v := .int .u8 m.flags) m_m (get_mid h.ln (j := 0) rfl)) rfl (ZBL ?_)
 refine DW (v := (.int .u8 (shl .u8 1 k))) rfl (dO rfl rfl hk.1) rfl rfl (DW (v := (.int .u8 (qZ m.flags k))) rfl (tC rfl rfl) rfl (cA_ _ (aH6 h.flags o_m)) (ZA1 ?_))
 refine DZ rfl (aD (l' := cMm A va { m with flags := qZ m.flags k }) 1 rfl rfl rfl rfl rfl rfl y_w (qR h.ln _)) rfl n_h (ZFI ?_)
 exact eY (fun _ _ => eT) (fun w hw => (hw.sub (.cons _ sR_)).perm (aw (l₁ := [(A.mb, _), (A.ub, _), (A.rb, _), (A.ob, _)]))) ⟨rfl, va, Ga, hV, rfl⟩
def aHd {n : Nat} (A : Ad) (hd : A.rb ∉ [A.mb, A.ub] ∧ A.ob ∉ [A.mb, A.ub]) (m : Mm) (hm : gN (n + 1) m) (H : aC) (hr : rO A m H) (a x : Int) (ha : 0 ≤ a ∧ a < 65536) (hx : 0 ≤ x ∧ x < 256) (w : AI) (hst : St w (H.map (·.1)) H w) : aB prog 318 [.agg #[P_ A.mb], .int .u16 a, .int .u8 x] w (H.map (·.1)) (fun v H' => v = .tuple #[] ∧ rO A (dY.write a x m) H') := by
 obtain ⟨va, Ga, hV, rfl⟩ := hr
 have h := hm.wf
 have hroom := hm.room
 have hc := h.cycle
 refine ZBH fun hVc hrc => ?_
 refine dO_ func318 hst ?_
 refine ZAl ?_
 refine ZBv fun b0 => ?_
 refine ZBB ?_
 refine ZAG ?_
 refine ZA1 ?_
 refine eW (L' := (b0, blk [P_ A.mb] 268) :: (Ga ++ [(A.mb, blk (cMm A va (cycleM m)) 156), (A.ub, blk (cU (cycleM m).u) 247), (A.rb, blk (List.map U_ (cycleM m).ram ++ A.rs) 5), (A.ob, blk (List.map U_ (cycleM m).rom ++ A.sp) 5)])) (fun _ h => h.as (by rw [cycleM_ram, cycleM_rom])) ?_
 refine ZBn ?_
 refine RZ (aK rfl rfl rfl (fun w hw => rowM_cp (m := (cycleM m)) (acc := va) (aA (b := A.mb) m_m w hw))) rfl (ZBL ?_)
 refine RLv K_ (wQ_ (aDS (cycleM m).cp hc.cp a)) ?_
 refine ZBL ?_
 refine KC (fun q0 z0 => ?_) (fun q0 z0 => ?_)
 ·refine ZBb ?_
  refine RX (bB (F := (b0, _) :: Ga) (A := [(A.mb, blk (cMm A va (cycleM m)) 156), (A.ub, blk (cU (cycleM m).u) 247), (A.rb, blk (List.map U_ (cycleM m).ram ++ A.rs) 5)]) (G := [(A.ob, blk (List.map U_ (cycleM m).rom ++ A.sp) 5)]) (R := fun v H => v = .tuple #[] ∧ H = [(A.mb, blk (cMm A va (pokeM a x (cycleM m))) 156), (A.ub, blk (cU (pokeM a x (cycleM m)).u) 247), (A.rb, blk (List.map U_ (pokeM a x (cycleM m)).ram ++ A.rs) 5)]) K_ rfl (wA_ (aRi A va (cycleM m) hc a x ha hx))) rfl (ZAG ?_)
  refine ZAl ?_
  refine RZ (aK rfl rfl rfl y_ck) rfl (ZAl ?_)
  have hVs : Vec 298 3 va (pokeM a x (cycleM m)).acc.length (aF cAc (pokeM a x (cycleM m)).acc) Ga := by rw [vE, cycleM_acc]; exact hV
  have hrs : (pokeM a x (cycleM m)).acc.length + 1 ≤ 1000000 := by rw [vE, cycleM_acc]; omega
  refine RX (aR (F := [(b0, _)]) (A := Ga ++ (A.mb, blk (cMm A va (pokeM a x (cycleM m))) 156) :: [(A.ub, blk (cU (pokeM a x (cycleM m)).u) 247), (A.rb, blk (List.map U_ (pokeM a x (cycleM m)).ram ++ A.rs) 5), (A.ob, blk (List.map U_ (cycleM m).rom ++ A.sp) 5)]) (R := fun v H => v = .int .u8 x ∧ ∃ va' Ga', Vec 298 3 va' ((pokeM a x (cycleM m)).acc.length + 1) (aF cAc ((pokeM a x (cycleM m)).acc ++ [⟨2, a, x⟩])) Ga' ∧ H = Ga' ++ (A.mb, blk (cMm A va' (pokeM a x (cycleM m))) 156) :: [(A.ub, blk (cU (pokeM a x (cycleM m)).u) 247), (A.rb, blk (List.map U_ (pokeM a x (cycleM m)).ram ++ A.rs) 5), (A.ob, blk (List.map U_ (cycleM m).rom ++ A.sp) 5)]) K_ rfl (wL_ (note_fn A (pokeM a x (cycleM m)) (hc.poke a hx).ln hrs va Ga _ hVs 2 a x))) rfl ?_
  rintro _ _ ⟨_, ⟨rfl, va', Ga', hV', rfl⟩, rfl⟩
  refine ZBL ?_
  have e9 : (if letsCp (cycleM m).cp a = true then pokeM a x (cycleM m) else (cycleM m)) = (pokeM a x (cycleM m)) := if_pos q0
  exact EN (.cons _ sR_) ⟨rfl, va', Ga', y_bd, by unfold dY; dsimp only; rw [e9]; show _ = _ ++ [_, _, _, (A.ob, blk (List.map U_ (pokeM a x (cycleM m)).rom ++ A.sp) 5)]; rw [aKH]; rfl⟩
 refine ZAl ?_
 refine RZ (aK rfl rfl rfl y_ck) rfl (ZAl ?_)
 have hVs : Vec 298 3 va (cycleM m).acc.length (aF cAc (cycleM m).acc) Ga := by rw [cycleM_acc]; exact hV
 have hrs : (cycleM m).acc.length + 1 ≤ 1000000 := by rw [cycleM_acc]; omega
 refine RX (aR (F := [(b0, _)]) (A := Ga ++ (A.mb, blk (cMm A va (cycleM m)) 156) :: [(A.ub, blk (cU (cycleM m).u) 247), (A.rb, blk (List.map U_ (cycleM m).ram ++ A.rs) 5), (A.ob, blk (List.map U_ (cycleM m).rom ++ A.sp) 5)]) (R := fun v H => v = .int .u8 x ∧ ∃ va' Ga', Vec 298 3 va' ((cycleM m).acc.length + 1) (aF cAc ((cycleM m).acc ++ [⟨2, a, x⟩])) Ga' ∧ H = Ga' ++ (A.mb, blk (cMm A va' (cycleM m)) 156) :: [(A.ub, blk (cU (cycleM m).u) 247), (A.rb, blk (List.map U_ (cycleM m).ram ++ A.rs) 5), (A.ob, blk (List.map U_ (cycleM m).rom ++ A.sp) 5)]) K_ rfl (wL_ (note_fn A (cycleM m) hc.ln hrs va Ga _ hVs 2 a x))) rfl ?_
 rintro _ _ ⟨_, ⟨rfl, va', Ga', hV', rfl⟩, rfl⟩
 refine ZBL ?_
 have e9 : (if letsCp (cycleM m).cp a = true then pokeM a x (cycleM m) else (cycleM m)) = (cycleM m) := if_neg (by rw [q0]; decide)
 exact EN (.cons _ sR_) ⟨rfl, va', Ga', y_bd, by unfold dY; dsimp only; rw [e9]; rfl⟩
def fY (rb : Nat) (n : Int) (w : AI) : aB prog 261 [P_ rb, .int .i64 n] w [] (V_ (atV rb n)) := by
 refine dR_ func261 ?_
 refine ZBb ?_
 refine DR [] (pln [0, 2, 4, 6, 8, 10, 12, 14, 16, 18, 20, 22, 24, 26, 28, 30, 32, 34, 36, 38, 40, 42, 45, 47]) ?_
 refine A_21 ?_
 refine DY rfl (lZ (l := [.pointer (some ⟨rb, 2, none⟩), .pointer (some ⟨rb, 3, none⟩), .pointer (some ⟨rb, 4, none⟩), .pointer (some ⟨rb, 5, none⟩), .pointer (some ⟨rb, 6, none⟩), .pointer (some ⟨rb, 7, none⟩), .pointer none, P_ rb]) (z := [.pointer none, .pointer none, .pointer none, .pointer none, .pointer none, .pointer none, .pointer none, .pointer none]) (ps := [(0, .pointer (some ⟨rb, 2, none⟩)), (1, .pointer (some ⟨rb, 3, none⟩)), (2, .pointer (some ⟨rb, 4, none⟩)), (3, .pointer (some ⟨rb, 5, none⟩)), (4, .pointer (some ⟨rb, 6, none⟩)), (5, .pointer (some ⟨rb, 7, none⟩)), (6, .pointer none), (7, P_ rb)]) rfl y_f rfl y_f) rfl (DX rfl (cG rfl) rfl n_h (ZAq fun b0 => ?_))
 refine DZ rfl s_t rfl n_h (ZBn ?_)
 refine KL (fun q0 z0 => ?_) (fun q0 z0 => ?_)
 ·refine A_10 ?_
  exact E0 rfl ⟨rfl, (by unfold atV; rw [if_pos o_m])⟩
 refine ZBr ?_
 refine KC (fun q1 z1 => ?_) (fun q1 z1 => ?_)
 ·refine ZBb ?_
  exact E0 rfl ⟨rfl, (by unfold atV; rw [if_pos o_m])⟩
 refine ZAl ?_
 rcases (show n = 0 ∨ n = 1 ∨ n = 2 ∨ n = 3 ∨ n = 4 ∨ n = 5 ∨ n = 6 ∨ n = 7 by omega) with rfl | rfl | rfl | rfl | rfl | rfl | rfl | rfl
 ·refine ZAl ?_
  exact RY (aQ 0 rfl rfl rfl rfl y_b) rfl ZAi
 ·refine ZAl ?_
  exact RY (aQ 1 rfl rfl rfl rfl y_b) rfl ZAi
 ·refine ZAl ?_
  exact RY (aQ 2 rfl rfl rfl rfl y_b) rfl ZAi
 ·refine ZAl ?_
  exact RY (aQ 3 rfl rfl rfl rfl y_b) rfl ZAi
 ·refine ZAl ?_
  exact RY (aQ 4 rfl rfl rfl rfl y_b) rfl ZAi
 ·refine ZAl ?_
  exact RY (aQ 5 rfl rfl rfl rfl y_b) rfl ZAi
 ·refine ZAl ?_
  exact RY (aQ 6 rfl rfl rfl rfl y_b) rfl ZAi
 refine ZAl ?_
 exact RY (aQ 7 rfl rfl rfl rfl y_b) rfl ZAi
def aTa (r : CR) (n : Int) (w : AI) : aB prog 239 [.agg (cR r).toArray, .int .i64 n] w [] (fun v H => H = [] ∧ ∃ k : Int, v = .tuple #[.int .u8 (aAy r n), .int .i64 k]) := by
 refine dR_ func239 ?_
 refine ZDg ?_
 refine ZAq fun b0 => ?_
 refine ZBb ?_
 rcases aDW n with rfl | rfl | rfl | rfl | rfl | rfl | rfl | hno
 ·refine ZAl ?_
  refine RLv K_ (wQ_ (fY b0 0)) ?_
  rw [show atV b0 0 = Value.pointer (some ⟨b0, 2, none⟩) from rfl]
  exact ZBJ
 ·refine ZAl ?_
  refine RLv K_ (wQ_ (fY b0 1)) ?_
  rw [show atV b0 1 = Value.pointer (some ⟨b0, 3, none⟩) from rfl]
  exact ZBJ
 ·refine ZAl ?_
  refine RLv K_ (wQ_ (fY b0 2)) ?_
  rw [show atV b0 2 = Value.pointer (some ⟨b0, 4, none⟩) from rfl]
  exact ZBJ
 ·refine ZAl ?_
  refine RLv K_ (wQ_ (fY b0 3)) ?_
  rw [show atV b0 3 = Value.pointer (some ⟨b0, 5, none⟩) from rfl]
  exact ZBJ
 ·refine ZAl ?_
  refine RLv K_ (wQ_ (fY b0 4)) ?_
  rw [show atV b0 4 = Value.pointer (some ⟨b0, 6, none⟩) from rfl]
  exact ZBJ
 ·refine ZAl ?_
  refine RLv K_ (wQ_ (fY b0 5)) ?_
  rw [show atV b0 5 = Value.pointer (some ⟨b0, 7, none⟩) from rfl]
  exact ZBJ
 ·refine ZAl ?_
  refine RLv K_ (wQ_ (fY b0 7)) ?_
  rw [show atV b0 7 = P_ b0 from rfl]
  exact ZBJ
 refine ZAl ?_
 refine RLv K_ (wQ_ (fY b0 n)) ?_
 rw [aMy hno]
 refine A_15 ?_
 exact aG (fun _ _ => bX rfl rfl) ⟨rfl, _, by rw [aQO hno]⟩
def aSc (r : CR) (n x : Int) (w : AI) : aB prog 238 [.agg (cR r).toArray, .int .i64 n, .int .u8 x] w [] (fun v H => H = [] ∧ ∃ k : Int, v = .tuple #[.agg (cR (pI r n x)).toArray, .int .i64 k]) := by
 refine dR_ func238 ?_
 refine ZDg ?_
 refine ZCc fun b0 b1 => ?_
 refine ZA1 ?_
 rcases aDW n with rfl | rfl | rfl | rfl | rfl | rfl | rfl | hno
 ·refine ZAl ?_
  refine RLv K_ (wQ_ (fY b0 0)) ?_
  rw [show atV b0 0 = Value.pointer (some ⟨b0, 2, none⟩) from rfl]
  refine A_15 ?_
  refine ZAF ?_
  refine ZA9 ?_
  exact aG (fun w hw => aY rfl rfl rfl (aA (b := b1) (l := cR (pI r 0 x)) m_m w hw) rfl) ⟨rfl, _, rfl⟩
 ·refine ZAl ?_
  refine RLv K_ (wQ_ (fY b0 1)) ?_
  rw [show atV b0 1 = Value.pointer (some ⟨b0, 3, none⟩) from rfl]
  refine A_15 ?_
  refine ZAF ?_
  refine ZA9 ?_
  exact aG (fun w hw => aY rfl rfl rfl (aA (b := b1) (l := cR (pI r 1 x)) m_m w hw) rfl) ⟨rfl, _, rfl⟩
 ·refine ZAl ?_
  refine RLv K_ (wQ_ (fY b0 2)) ?_
  rw [show atV b0 2 = Value.pointer (some ⟨b0, 4, none⟩) from rfl]
  refine A_15 ?_
  refine ZAF ?_
  refine ZA9 ?_
  exact aG (fun w hw => aY rfl rfl rfl (aA (b := b1) (l := cR (pI r 2 x)) m_m w hw) rfl) ⟨rfl, _, rfl⟩
 ·refine ZAl ?_
  refine RLv K_ (wQ_ (fY b0 3)) ?_
  rw [show atV b0 3 = Value.pointer (some ⟨b0, 5, none⟩) from rfl]
  refine A_15 ?_
  refine ZAF ?_
  refine ZA9 ?_
  exact aG (fun w hw => aY rfl rfl rfl (aA (b := b1) (l := cR (pI r 3 x)) m_m w hw) rfl) ⟨rfl, _, rfl⟩
 ·refine ZAl ?_
  refine RLv K_ (wQ_ (fY b0 4)) ?_
  rw [show atV b0 4 = Value.pointer (some ⟨b0, 6, none⟩) from rfl]
  refine A_15 ?_
  refine ZAF ?_
  refine ZA9 ?_
  exact aG (fun w hw => aY rfl rfl rfl (aA (b := b1) (l := cR (pI r 4 x)) m_m w hw) rfl) ⟨rfl, _, rfl⟩
 ·refine ZAl ?_
  refine RLv K_ (wQ_ (fY b0 5)) ?_
  rw [show atV b0 5 = Value.pointer (some ⟨b0, 7, none⟩) from rfl]
  refine A_15 ?_
  refine ZAF ?_
  refine ZA9 ?_
  exact aG (fun w hw => aY rfl rfl rfl (aA (b := b1) (l := cR (pI r 5 x)) m_m w hw) rfl) ⟨rfl, _, rfl⟩
 ·refine ZAl ?_
  refine RLv K_ (wQ_ (fY b0 7)) ?_
  rw [show atV b0 7 = P_ b0 from rfl]
  refine A_15 ?_
  refine ZAF ?_
  refine ZA9 ?_
  exact aG (fun w hw => aY rfl rfl rfl (aA (b := b1) (l := cR (pI r 7 x)) m_m w hw) rfl) ⟨rfl, _, rfl⟩
 refine ZAl ?_
 refine RLv K_ (wQ_ (fY b0 n)) ?_
 rw [aMy hno]
 refine A_11 ?_
 refine RS ?_
 refine ZAF ?_
 exact aG (fun w hw => aY rfl rfl rfl (aA (b := b1) m_m w hw) rfl) ⟨rfl, _, by rw [aRh hno]; rfl⟩
def pO (rb : Nat) (n : Int) (hn : n = 0 ∨ n = 1 ∨ n = 2 ∨ n = 4) (w : AI) : aB prog 263 [P_ rb, .int .i64 n] w [] (V_ (.tuple #[.pointer (some ⟨rb, hiO n, none⟩), .pointer (some ⟨rb, loO n, none⟩)])) := by
 refine dR_ func263 ?_
 refine ZDH ?_
 rcases hn with rfl | rfl | rfl | rfl
 ·refine A_10 ?_
  refine ZCA ?_
  refine RLv K_ (wQ_ (fY rb (2 * 0))) ?_
  rw [show atV rb (2 * 0) = Value.pointer (some ⟨rb, 2, none⟩) from rfl]
  refine ZAl ?_
  refine ZCA ?_
  refine ZAa ?_
  refine RLv K_ (wQ_ (fY rb (2 * 0 + 1))) ?_
  rw [show atV rb (2 * 0 + 1) = Value.pointer (some ⟨rb, 3, none⟩) from rfl]
  exact ZEJ
 ·refine A_10 ?_
  refine ZCA ?_
  refine RLv K_ (wQ_ (fY rb (2 * 1))) ?_
  rw [show atV rb (2 * 1) = Value.pointer (some ⟨rb, 4, none⟩) from rfl]
  refine ZAl ?_
  refine ZCA ?_
  refine ZAa ?_
  refine RLv K_ (wQ_ (fY rb (2 * 1 + 1))) ?_
  rw [show atV rb (2 * 1 + 1) = Value.pointer (some ⟨rb, 5, none⟩) from rfl]
  exact ZEJ
 ·refine A_10 ?_
  refine ZCA ?_
  refine RLv K_ (wQ_ (fY rb (2 * 2))) ?_
  rw [show atV rb (2 * 2) = Value.pointer (some ⟨rb, 6, none⟩) from rfl]
  refine ZAl ?_
  refine ZCA ?_
  refine ZAa ?_
  refine RLv K_ (wQ_ (fY rb (2 * 2 + 1))) ?_
  rw [show atV rb (2 * 2 + 1) = Value.pointer (some ⟨rb, 7, none⟩) from rfl]
  exact ZEJ
 refine ZBn ?_
 refine ZDY ?_
 refine A_10 ?_
 exact aG (fun _ _ => bX rfl rfl) ⟨rfl, rfl⟩
def aQl (r : CR) (hr : r.Ok) (n : Int) (w : AI) : aB prog 249 [.agg (cR r).toArray, .int .i64 n] w [] (fun v H => H = [] ∧ ∃ k : Int, v = .tuple #[.int .u16 (bH r n), .int .i64 k]) := by
 have k1 := hr.a
 have k2 := hr.f
 have k3 := hr.b
 have k4 := hr.c
 have k5 := hr.d
 have k6 := hr.e
 have k7 := hr.h
 have k8 := hr.l
 have k9 := hr.sp
 refine dR_ func249 ?_
 refine ZDg ?_
 refine ZAq fun b0 => ?_
 refine A_9 ?_
 refine KL (fun q0 z0 => ?_) (fun q0 z0 => ?_)
 ·refine A_12 ?_
  exact aG (fun _ _ => bX rfl rfl) ⟨rfl, _, (by rw [aFV o_m])⟩
 refine ZBb ?_
 refine KC (fun q1 z1 => ?_) (fun q1 z1 => ?_)
 ·refine ZBn ?_
  exact aG (fun _ _ => bX rfl rfl) ⟨rfl, _, (by rw [aFV o_m])⟩
 refine ZBn ?_
 refine KC (fun q2 z2 => ?_) (fun q2 z2 => ?_)
 ·refine ZEf ?_
  obtain rfl : n = 3 := by omega
  exact aG (fun _ _ => bX rfl rfl) ⟨rfl, _, rfl⟩
 refine ZBb ?_
 refine RW (v := (.int .u8 (r.f / 16 * 16))) (bE rfl rfl) rfl (cA_ _ (aUg hr.f)) (ZBL ?_)
 refine ZAK ?_
 rcases (show n = 0 ∨ n = 1 ∨ n = 2 ∨ n = 4 by omega) with rfl | rfl | rfl | rfl
 ·refine ZAl ?_
  refine RLv K_ (wQ_ (pO b0 0 y_b)) ?_
  rw [show hiO 0 = 2 from rfl, show loO 0 = 3 from rfl]
  refine ZCq ?_
  refine ZEY ?_
  refine ZBz ?_
  exact DW (v := (.int .u16 (r.b * 256 + r.c))) rfl (cT rfl rfl) rfl (cA_ _ (sJ hr.b hr.c)) ZC0
 ·refine ZAl ?_
  refine RLv K_ (wQ_ (pO b0 1 y_b)) ?_
  rw [show hiO 1 = 4 from rfl, show loO 1 = 5 from rfl]
  refine ZCq ?_
  refine ZEY ?_
  refine ZBz ?_
  exact DW (v := (.int .u16 (r.d * 256 + r.e))) rfl (cT rfl rfl) rfl (cA_ _ (sJ hr.d hr.e)) ZC0
 ·refine ZAl ?_
  refine RLv K_ (wQ_ (pO b0 2 y_b)) ?_
  rw [show hiO 2 = 6 from rfl, show loO 2 = 7 from rfl]
  refine ZCq ?_
  refine ZEY ?_
  refine ZBz ?_
  exact DW (v := (.int .u16 (r.h * 256 + r.l))) rfl (cT rfl rfl) rfl (cA_ _ (sJ hr.h hr.l)) ZC0
 refine ZAl ?_
 refine RLv K_ (wQ_ (pO b0 4 y_b)) ?_
 rw [show hiO 4 = 0 from rfl, show loO 4 = 1 from rfl]
 refine ZCq ?_
 refine ZEY ?_
 refine ZBz ?_
 exact DW (v := (.int .u16 (r.a * 256 + r.f / 16 * 16))) rfl (cT rfl rfl) rfl (cA_ _ (sJ hr.a o_m)) ZC0
def aJf (r : CR) (n x : Int) (hx : 0 ≤ x ∧ x < 65536) (w : AI) : aB prog 248 [.agg (cR r).toArray, .int .i64 n, .int .u16 x] w [] (fun v H => H = [] ∧ ∃ k : Int, v = .tuple #[.agg (cR (fB r n x)).toArray, .int .i64 k]) := by
 refine dR_ func248 ?_
 refine ZDg ?_
 refine ZCc fun b0 b1 => ?_
 refine ZEf ?_
 refine KL (fun q0 z0 => ?_) (fun q0 z0 => ?_)
 ·refine ZEf ?_
  refine RS ?_
  exact ZD9
 refine ZBb ?_
 refine KC (fun q1 z1 => ?_) (fun q1 z1 => ?_)
 ·refine ZAl ?_
  refine RS ?_
  exact ZD9
 refine ZBn ?_
 refine KC (fun q2 z2 => ?_) (fun q2 z2 => ?_)
 ·refine ZBr ?_
  refine ZAF ?_
  refine ZA9 ?_
  obtain rfl : n = 3 := by omega
  exact aG (fun w hw => aY rfl rfl rfl (aA (b := b1) (l := cR (fB r 3 x)) m_m w hw) rfl) ⟨rfl, _, rfl⟩
 refine ZBn ?_
 refine KC (fun q3 z3 => ?_) (fun q3 z3 => ?_)
 ·refine ZAl ?_
  refine RW (v := (.int .u16 (x / 16 * 16))) (tC rfl rfl) rfl (cA_ _ (aSQ hx)) (ZA1 ?_)
  obtain rfl : n = 4 := by omega
  ·refine ZAl ?_
   refine RLv K_ (wQ_ (pO b0 4 y_b)) ?_
   rw [show hiO 4 = 0 from rfl, show loO 4 = 1 from rfl]
   refine A_11 ?_
   refine ZBI ?_
   refine ZBL ?_
   refine RW (v := (.int .u8 (x % 256 / 16 * 16))) (dN rfl rfl rfl) rfl (cA_ _ ((fL _).trans o_m)) (ZA4 ?_)
   refine ZA5 ?_
   refine ZA9 ?_
   exact aG (fun w hw => aY rfl rfl rfl (aA (b := b1) (l := cR (fB r 4 x)) m_m w hw) rfl) ⟨rfl, _, rfl⟩
 refine ZAl ?_
 rcases (show n = 0 ∨ n = 1 ∨ n = 2 by omega) with rfl | rfl | rfl
 ·refine ZAl ?_
  refine RLv K_ (wQ_ (pO b0 0 y_b)) ?_
  rw [show hiO 0 = 2 from rfl, show loO 0 = 3 from rfl]
  refine A_11 ?_
  refine ZBI ?_
  refine ZDJ ?_
  refine ZA4 ?_
  refine ZA5 ?_
  refine ZA9 ?_
  exact aG (fun w hw => aY rfl rfl rfl (aA (b := b1) (l := cR (fB r 0 x)) m_m w hw) rfl) ⟨rfl, _, rfl⟩
 ·refine ZAl ?_
  refine RLv K_ (wQ_ (pO b0 1 y_b)) ?_
  rw [show hiO 1 = 4 from rfl, show loO 1 = 5 from rfl]
  refine A_11 ?_
  refine ZBI ?_
  refine ZDJ ?_
  refine ZA4 ?_
  refine ZA5 ?_
  refine ZA9 ?_
  exact aG (fun w hw => aY rfl rfl rfl (aA (b := b1) (l := cR (fB r 1 x)) m_m w hw) rfl) ⟨rfl, _, rfl⟩
 refine ZAl ?_
 refine RLv K_ (wQ_ (pO b0 2 y_b)) ?_
 rw [show hiO 2 = 6 from rfl, show loO 2 = 7 from rfl]
 refine A_11 ?_
 refine ZBI ?_
 refine ZDJ ?_
 refine ZA4 ?_
 refine ZA5 ?_
 refine ZA9 ?_
 exact aG (fun w hw => aY rfl rfl rfl (aA (b := b1) (l := cR (fB r 2 x)) m_m w hw) rfl) ⟨rfl, _, rfl⟩
def aUI (r : CR) (hr : r.Ok) (n : Int) (w : AI) : aB prog 224 [.agg (cR r).toArray, .int .i64 n] w [] (V_ (.bool (isR r n))) := by
 refine dR_ func224 ?_
 refine ZDg ?_
 refine ZAq fun b0 => ?_
 refine A_14 ?_
 refine KC (fun q0 z0 => ?_) (fun q0 z0 => ?_)
 ·refine ZBL ?_
  refine iO true rfl q0 ?_
  refine ZBr ?_
  refine RW (v := (.int .u8 (aH .u8 r.f 128))) rfl rfl rfl (RW (v := (.bool (zF r.f))) rfl rfl (cA_ _ (aPB hr.f)) (ZAl ?_))
  refine RY (kZ rfl rfl rfl) rfl (ZA1 ?_)
  exact E0 rfl ⟨rfl, (cA_ Value.bool (aMe o_m r))⟩
 refine ZBr ?_
 refine KC (fun q1 z1 => ?_) (fun q1 z1 => ?_)
 ·refine ZBr ?_
  refine RW (v := (.int .u8 (aH .u8 r.f 128))) rfl rfl rfl (RW (v := (.bool (zF r.f))) rfl rfl (cA_ _ (aPB hr.f)) (ZAl ?_))
  refine RY (kZ rfl rfl rfl) rfl (ZA1 ?_)
  exact E0 rfl ⟨rfl, (cA_ Value.bool (aMe o_m r))⟩
 refine ZBn ?_
 refine KC (fun q2 z2 => ?_) (fun q2 z2 => ?_)
 ·refine ZBL ?_
  refine iO true rfl q2 ?_
  refine ZBr ?_
  refine RW (v := (.int .u8 (aH .u8 r.f 16))) rfl rfl rfl (RW (v := (.bool (cF r.f))) rfl rfl (cA_ _ (aIi hr.f)) (ZAl ?_))
  refine RY (kZ rfl rfl rfl) rfl (ZA1 ?_)
  exact E0 rfl ⟨rfl, (cA_ Value.bool (aKq o_m r))⟩
 refine ZBr ?_
 refine KC (fun q3 z3 => ?_) (fun q3 z3 => ?_)
 ·refine ZBr ?_
  refine RW (v := (.int .u8 (aH .u8 r.f 16))) rfl rfl rfl (RW (v := (.bool (cF r.f))) rfl rfl (cA_ _ (aIi hr.f)) (ZAl ?_))
  refine RY (kZ rfl rfl rfl) rfl (ZA1 ?_)
  exact E0 rfl ⟨rfl, (cA_ Value.bool (aKq o_m r))⟩
 refine ZEf ?_
 exact E0 rfl ⟨rfl, (cA_ Value.bool (aUS o_m o_m o_m o_m r))⟩
def flagA_fn (x : Int) (b : Bool) (w : AI) : aB prog 246 [.int .u8 x, .bool b] w [] (V_ (.int .u8 (fg x b))) := by
 refine dR_ func246 ?_
 refine A_9 ?_
 refine KC (fun q0 z0 => ?_) (fun q0 z0 => ?_)
 ·refine ZBn ?_
  exact E0 rfl ⟨rfl, (by rw [show b = true from q0]; rfl)⟩
 refine ZBn ?_
 exact E0 rfl ⟨rfl, (by rw [show b = false from q0]; rfl)⟩
def zero_fn (x : Int) (w : AI) : aB prog 245 [.int .u8 x] w [] (V_ (.int .u8 (fg 128 (x == 0)))) := by
 refine dR_ func245 ?_
 refine ZEf ?_
 refine RLv K_ (wQ_ (flagA_fn 128 _)) ?_
 exact ZAR
def aLH (b : Bool) (w : AI) : aB prog 262 [.bool b] w [] (V_ (.int .u8 (b2i b))) := by
 refine dR_ func262 ?_
 refine ZDH ?_
 refine RLv K_ (wQ_ (flagA_fn 1 _)) ?_
 exact ZAR
def aCQ (a b : Int) (c : Bool) (ha : 0 ≤ a ∧ a < 256) (hb : 0 ≤ b ∧ b < 256) (w : AI) : aB prog 240 [.int .u8 a, .int .u8 b, .bool c] w [] (V_ (.tuple #[.int .u8 (oK a b c), .int .u8 (aAR a b c)])) := by
 have hc := aCi c
 refine dR_ func240 ?_
 refine ZEf ?_
 refine RLv K_ (wQ_ (aLH c)) ?_
 refine ZBn ?_
 refine ZB9 ?_
 refine ZBL ?_
 refine ZB9 ?_
 refine ZBn ?_
 refine ZBa ?_
 refine ZBw ?_
 refine ZBL ?_
 refine ZBw ?_
 refine ZB9 ?_
 refine ZBL ?_
 refine ZB9 ?_
 refine ZDK ?_
 refine ZAb ?_
 refine ZEb ?_
 refine ZEb ?_
 refine ZAa ?_
 refine ZEb ?_
 refine ZAa ?_
 refine ZBL ?_
 refine RLv K_ (wQ_ (flagA_fn 16 _)) ?_
 refine ZDl ?_
 have e1 : ((a + b) % 256 + b2i c) % 256 = oK a b c := by unfold oK; omega
 rw [e1, aFS]
 exact aG (fun _ _ => eU rfl rfl) ⟨rfl, rfl⟩
def aMq (a b : Int) (c : Bool) (ha : 0 ≤ a ∧ a < 256) (hb : 0 ≤ b ∧ b < 256) (w : AI) : aB prog 241 [.int .u8 a, .int .u8 b, .bool c] w [] (V_ (.tuple #[.int .u8 (oY a b c), .int .u8 (rM a b c)])) := by
 have hc := aCi c
 refine dR_ func241 ?_
 refine ZEf ?_
 refine RLv K_ (wQ_ (aLH c)) ?_
 refine ZBn ?_
 refine RW (iV rfl rfl) rfl y_o (ZBL ?_)
 refine RW (iV rfl rfl) rfl y_o (ZBn ?_)
 refine ZEu ?_
 refine ZAb ?_
 refine ZBL ?_
 refine ZBw ?_
 refine ZBL ?_
 refine ZBw ?_
 refine ZBL ?_
 refine ZB9 ?_
 refine ZDK ?_
 refine ZAb ?_
 refine ZEb ?_
 refine ZEb ?_
 refine ZEb ?_
 refine ZAa ?_
 refine ZBL ?_
 refine RLv K_ (wQ_ (flagA_fn 16 _)) ?_
 refine ZDl ?_
 have e1 : ((a - b) % 256 - b2i c) % 256 = oY a b c := by unfold oY; omega
 rw [e1, aHC]
 exact aG (fun _ _ => eU rfl rfl) ⟨rfl, rfl⟩
def aS1 (a b : Int) (ha : 0 ≤ a ∧ a < 256) (hb : 0 ≤ b ∧ b < 256) (w : AI) : aB prog 242 [.int .u8 a, .int .u8 b] w [] (V_ (.tuple #[.int .u8 (aH .u8 a b), .int .u8 (rW 0 (aH .u8 a b))])) := by
 refine dR_ func242 ?_
 refine A_9 ?_
 refine RW (bE rfl rfl) rfl rfl (ZAl ?_)
 refine RW (bE rfl rfl) rfl rfl (ZEu ?_)
 refine ZDl ?_
 rw [aUE]
 exact aG (fun _ _ => eU rfl rfl) ⟨rfl, rfl⟩
def aUb (a b : Int) (ha : 0 ≤ a ∧ a < 256) (hb : 0 ≤ b ∧ b < 256) (w : AI) : aB prog 244 [.int .u8 a, .int .u8 b] w [] (V_ (.tuple #[.int .u8 (bor .u8 a b), .int .u8 (rW 1 (bor .u8 a b))])) := by
 refine dR_ func244 ?_
 refine A_9 ?_
 refine ZAb ?_
 refine ZAl ?_
 refine ZAb ?_
 refine ZEu ?_
 refine ZBr ?_
 rw [aS6]
 exact aG (fun _ _ => eU rfl rfl) ⟨rfl, rfl⟩
def aTD (a b : Int) (ha : 0 ≤ a ∧ a < 256) (hb : 0 ≤ b ∧ b < 256) (w : AI) : aB prog 243 [.int .u8 a, .int .u8 b] w [] (V_ (.tuple #[.int .u8 (kM .u8 a b), .int .u8 (rW 2 (kM .u8 a b))])) := by
 refine dR_ func243 ?_
 refine A_9 ?_
 refine RW (aEZ rfl rfl) rfl rfl (ZAl ?_)
 refine RW (aEZ rfl rfl) rfl rfl (ZEu ?_)
 refine ZBr ?_
 rw [aS6]
 exact aG (fun _ _ => eU rfl rfl) ⟨rfl, rfl⟩
def aTt (a f : Int) (ha : 0 ≤ a ∧ a < 256) (hf : 0 ≤ f ∧ f < 256) (w : AI) : aB prog 212 [.int .u8 a, .int .u8 f] w [] (V_ (.tuple #[.int .u8 (aAt a), .int .u8 (aI2 a f)])) := by
 refine dR_ func212 ?_
 refine ZEf ?_
 refine ZB9 ?_
 refine ZBn ?_
 refine ZBa ?_
 refine ZBw ?_
 refine ZDK ?_
 refine ZAb ?_
 refine ZBL ?_
 refine RW (bE rfl rfl) rfl y_eh (ZDl ?_)
 rw [aJr, aFS]
 exact aG (fun _ _ => eU rfl rfl) ⟨rfl, rfl⟩
def aPU (a f : Int) (ha : 0 ≤ a ∧ a < 256) (hf : 0 ≤ f ∧ f < 256) (w : AI) : aB prog 213 [.int .u8 a, .int .u8 f] w [] (V_ (.tuple #[.int .u8 (aAr a), .int .u8 (aIk a f)])) := by
 refine dR_ func213 ?_
 refine ZEf ?_
 refine RW (iV rfl rfl) rfl y_o (ZBn ?_)
 refine ZEu ?_
 refine ZAb ?_
 refine ZBL ?_
 refine ZBw ?_
 refine ZDK ?_
 refine ZAb ?_
 refine ZBL ?_
 refine RW (bE rfl rfl) rfl y_eh (ZDl ?_)
 rw [aJr, aHC]
 exact aG (fun _ _ => eU rfl rfl) ⟨rfl, rfl⟩
def aM1 (a b f : Int) (ha : 0 ≤ a ∧ a < 65536) (hb : 0 ≤ b ∧ b < 65536) (hf : 0 ≤ f ∧ f < 256) (w : AI) : aB prog 220 [.int .u16 a, .int .u16 b, .int .u8 f] w [] (V_ (.tuple #[.int .u16 (sM a b), .int .u8 (xF a b f)])) := by
 refine dR_ func220 ?_
 refine A_9 ?_
 refine RW (jD rfl rfl) rfl y_q (ZBL ?_)
 refine ZEN ?_
 refine ZBL ?_
 refine RW (bE rfl rfl) rfl y_es (ZBL ?_)
 refine RW (bE rfl rfl) rfl y_es (RW (jD rfl rfl) rfl y_q (ZDK ?_))
 refine ZAb ?_
 refine ZEb ?_
 refine ZEb ?_
 refine ZAa ?_
 refine ZBL ?_
 refine RLv K_ (wQ_ (flagA_fn 16 _)) ?_
 refine ZDl ?_
 rw [aUv hf, aS5]
 exact aG (fun _ _ => eU rfl rfl) ⟨rfl, rfl⟩
def aFb (a e : Int) (ha : 0 ≤ a ∧ a < 65536) (he : 0 ≤ e ∧ e < 256) (w : AI) : aB prog 221 [.int .u16 a, .int .u8 e] w [] (V_ (.tuple #[.int .u16 (shR a e), .int .u8 (shF a e)])) := by
 refine dR_ func221 ?_
 refine ZEf ?_
 refine RW (v := (.int .u8 (a % 256))) rfl rfl (cA_ _ (fL _)) (ZBn ?_)
 refine RW (v := (.int .i8 (s8 e))) (dN rfl rfl rfl) rfl (cA_ _ (aP9 he)) (RW (v := (.int .u16 (s8 e % 65536))) (dN rfl rfl rfl) rfl (cA_ _ (gF _)) (RW (jD rfl rfl) rfl y_q (ZBL ?_)))
 refine ZBw ?_
 refine ZBL ?_
 refine ZBw ?_
 refine ZB9 ?_
 refine ZDK ?_
 refine ZEb ?_
 refine ZEb ?_
 refine ZAa ?_
 refine ZBL ?_
 refine RLv K_ (wQ_ (flagA_fn 16 _)) ?_
 refine ZDl ?_
 have e1 : (a + s8 e % 65536) % 65536 = shR a e := by unfold shR; omega
 rw [e1, aUF, show a % 256 % 16 = a % 16 by omega]
 exact aG (fun _ _ => eU rfl rfl) ⟨rfl, rfl⟩
def aRK (n a f : Int) (ha : 0 ≤ a ∧ a < 256) (hf : 0 ≤ f ∧ f < 256) (w : AI) : aB prog 216 [.int .i64 n, .int .u8 a, .int .u8 f] w [] (V_ (.int .u8 (aIB n a f))) := by
 refine dR_ func216 ?_
 refine ZBb ?_
 have hs := aNx n ha
 refine ZA1 ?_
 refine RW (v := (.int .i64 (n % 8))) (bE rfl rfl) rfl (cA_ _ (aPC n)) (RW (v := (.int .u8 (a / 2 ^ (n % 8).toNat))) (dU rfl rfl o_m) rfl (cA_ _ (aRW o_m)) (RW (bE rfl rfl) rfl y_dZ (ZEu ?_)))
 refine ZAb ?_
 refine ZBL ?_
 refine RW (bE rfl rfl) rfl y_eh (ZAb ?_)
 refine ZA1 ?_
 rw [aJr, aSD]
 exact E0 rfl ⟨rfl, rfl⟩
def aQr (a : Int) (ha : 0 ≤ a ∧ a < 256) (w : AI) : aB prog 247 [.int .u8 a, .int .i64 1] w [] (V_ (.int .u8 (a * 2 % 256 + a / 128))) := by
 refine dR_ func247 ?_
 refine ZDH ?_
 refine RW (v := (.int .u64 1)) rfl rfl rfl (RW (v := (.int .u64 1)) (bE rfl rfl) rfl (cA_ _ y_b) (ZBn ?_))
 refine RW (v := (.int .u8 (shl .u8 a 1))) (dO rfl rfl y_b) rfl rfl (ZAl ?_)
 refine RW (v := (.int .u64 7)) (iV rfl rfl) rfl (cA_ _ y_b) (RW (v := (.int .u8 (shr .u8 a 7))) (dU rfl rfl y_b) rfl rfl (ZAb ?_))
 refine ZA1 ?_
 rw [aUk ha]
 exact E0 rfl ⟨rfl, rfl⟩
def aRq (a : Int) (ha : 0 ≤ a ∧ a < 256) (w : AI) : aB prog 247 [.int .u8 a, .int .i64 4] w [] (V_ (.int .u8 (a % 16 * 16 + a / 16))) := by
 refine dR_ func247 ?_
 refine ZDH ?_
 refine RW (v := (.int .u64 4)) rfl rfl rfl (RW (v := (.int .u64 4)) (bE rfl rfl) rfl (cA_ _ y_b) (ZBn ?_))
 refine RW (v := (.int .u8 (shl .u8 a 4))) (dO rfl rfl y_b) rfl rfl (ZAl ?_)
 refine RW (v := (.int .u64 4)) (iV rfl rfl) rfl (cA_ _ y_b) (RW (v := (.int .u8 (shr .u8 a 4))) (dU rfl rfl y_b) rfl rfl (ZAb ?_))
 refine ZA1 ?_
 rw [aUa ha]
 exact E0 rfl ⟨rfl, rfl⟩
def aTA (a f : Int) (ha : 0 ≤ a ∧ a < 256) (hf : 0 ≤ f ∧ f < 256) (w : AI) : aB prog 217 [.int .u8 a, .int .u8 f] w [] (V_ (.tuple #[.int .u8 (tH a f), .int .u8 (aJt a f)])) := by
 refine dR_ func217 ?_
 refine A_12 ?_
 refine RW (v := (.int .u8 (aH .u8 f 64))) rfl rfl rfl (RW (v := (.bool (nF f))) rfl rfl (cA_ _ (aT4 hf)) (ZBb ?_))
 refine RW (v := (.int .u8 (fg 16 (cF f)))) rfl rfl (cA_ _ (aLa hf)) (ZAl ?_)
 refine jC (σ := Unit) [6, 14, 15, 16, 17, 18, 19, 20, 21, 22, 23, 24, 25, 26, 27] (fun _ => [(6, .int .u8 (fg 6 (daaL a f)))]) (fun _ => []) (fun _ => True) ?_ ?_
 ·refine ZA1 ?_
  refine RW (v := (.int .u8 (aH .u8 f 32))) rfl rfl rfl (RW (v := (.bool (hF f))) rfl rfl (cA_ _ (aT0 hf)) (KL (fun q0 z0 => ?_) (fun q0 z0 => ?_)))
  ·refine A_12 ?_
   refine RW (v := (.int .u8 6)) (cT rfl rfl) rfl (cA_ _ y_b) (ZAl ?_)
   exact ⟨(), trivial, .cons (cA_ U_ y_br) (.nil), a_g, fun _ h => h⟩
  refine ZAl ?_
  refine KL (fun q1 z1 => ?_) (fun q1 z1 => ?_)
  ·refine ZBL ?_
   refine ZBw ?_
   refine ZBr ?_
   refine KC (fun q2 z2 => ?_) (fun q2 z2 => ?_)
   ·refine ZAl ?_
    refine RW (v := (.int .u8 6)) (cT rfl rfl) rfl (cA_ _ y_b) (ZAl ?_)
    exact ⟨(), trivial, .cons (cA_ U_ y_br) (.nil), a_g, fun _ h => h⟩
   refine ZBL ?_
   exact ⟨(), trivial, .cons (cA_ U_ y_br) (.nil), a_g, fun _ h => h⟩
  refine ZEf ?_
  exact ⟨(), trivial, .cons (cA_ U_ y_br) (.nil), a_g, fun _ h => h⟩
 rintro _ y4 _
 refine jC (σ := Unit) [6, 28, 29, 30, 31, 32, 33, 34, 35, 36, 37, 38, 39, 8] (fun _ => [(6, .int .u8 (daaB a f)), (8, .int .u8 (fg 16 (daaC a f)))]) (fun _ => []) (fun _ => True) ?_ ?_
 ·refine ZA1 ?_
  refine RW (v := (.bool (cF f))) rfl rfl (cA_ _ (aUn _)) (KL (fun q0 z0 => ?_) (fun q0 z0 => ?_))
  ·refine A_12 ?_
   exact ZFD
  refine ZAl ?_
  refine KL (fun q1 z1 => ?_) (fun q1 z1 => ?_)
  ·refine ZBb ?_
   refine KC (fun q2 z2 => ?_) (fun q2 z2 => ?_)
   ·refine ZA1 ?_
    exact ZFD
   refine ZBL ?_
   exact ⟨(), trivial, .cons (cA_ U_ y_bl) (.cons (cA_ U_ y_bs) (.nil)), a_g, fun _ h => h⟩
  refine ZDH ?_
  exact ⟨(), trivial, .cons (cA_ U_ y_bl) (.cons (cA_ U_ y_bs) (.nil)), a_g, fun _ h => h⟩
 rintro _ y6 _
 refine jC (σ := Unit) [4, 40, 41, 42, 43, 44, 45, 46] (fun _ => [(4, .int .u8 (tH a f))]) (fun _ => []) (fun _ => True) ?_ ?_
 ·refine ZBr ?_
  refine ZB9 ?_
  refine ZBn ?_
  refine KC (fun q0 z0 => ?_) (fun q0 z0 => ?_)
  ·refine ZA1 ?_
   refine RW (iV rfl rfl) rfl y_o (ZAl ?_)
   exact ⟨(), trivial, .cons (cA_ U_ (by unfold tH; simp_all)) (.nil), a_g, fun _ h => h⟩
  refine ZBL ?_
  exact ⟨(), trivial, .cons (cA_ U_ (by unfold tH; simp_all)) (.nil), a_g, fun _ h => h⟩
 rintro _ y10 _
 refine ZBr ?_
 refine ZBa ?_
 refine RW (bE rfl rfl) rfl y_eg (ZAb ?_)
 refine ZBL ?_
 refine ZDl ?_
 rw [aUr, aSW]
 exact aG (fun _ _ => eU rfl rfl) ⟨rfl, rfl⟩
def aHK (k a f : Int) (ha : 0 ≤ a ∧ a < 256) (hf : 0 ≤ f ∧ f < 256) (w : AI) : aB prog 215 [.int .i64 k, .int .u8 a, .int .u8 f] w [] (V_ (.tuple #[.int .u8 (eC k a f), .int .u8 (iJ k a f)])) := by
 have hb := aCi (cF f)
 refine dR_ func215 ?_
 refine ZEf ?_
 refine RW (v := (.int .u8 (fg 16 (cF f)))) rfl rfl (cA_ _ (aLa hf)) (RW (v := (.int .u8 (b2i (cF f)))) (dU rfl rfl y_b) rfl (cA_ _ (aUy _)) (ZBb ?_))
 refine RW (dU rfl rfl y_b) rfl (iY 128 y_b y_b) (ZBL ?_)
 refine RW (bE rfl rfl) rfl y_dZ (A_12 ?_)
 refine RW (v := (.int .i64 (k % 8))) (bE rfl rfl) rfl (cA_ _ (aPC k)) (A_25 ?_)
 refine KC (fun q0 z0 => ?_) (fun q0 z0 => ?_)
 ·refine ZBr ?_
  refine RLv K_ (wQ_ (aQr a ha)) ?_
  refine ZDH ?_
  refine ZBh ?_
  refine ZDl ?_
  have hk : k % 8 = 0 := by omega
  have hr : eC k a f = a * 2 % 256 + a / 128 := by unfold eC; rw [hk]; rfl
  refine ZEd fun ho => ?_
  have e9 : Value.tuple #[.int .u8 (a * 2 % 256 + a / 128), .int .u8 (fl ((a * 2 % 256 + a / 128) == 0) false false (a / 128 == 1))] = .tuple #[.int .u8 (eC k a f), .int .u8 (iJ k a f)] := by unfold iJ; rw [hr, ho]
  exact aG (fun _ _ => eU rfl rfl) ⟨rfl, e9⟩
 refine ZDH ?_
 refine KC (fun q1 z1 => ?_) (fun q1 z1 => ?_)
 ·refine ZBr ?_
  refine RW (dO rfl rfl y_b) rfl y_ei (ZBL ?_)
  refine RW (v := (.int .u8 (a * 2 % 256 + b2i (cF f)))) (cT rfl rfl) rfl (cA_ _ (aTT ha _)) (ZDH ?_)
  refine ZBh ?_
  refine ZDl ?_
  have hk : k % 8 = 2 := by omega
  have hr : eC k a f = a * 2 % 256 + b2i (cF f) := by unfold eC; rw [hk]; rfl
  refine ZEd fun ho => ?_
  have e9 : Value.tuple #[.int .u8 (a * 2 % 256 + b2i (cF f)), .int .u8 (fl ((a * 2 % 256 + b2i (cF f)) == 0) false false (a / 128 == 1))] = .tuple #[.int .u8 (eC k a f), .int .u8 (iJ k a f)] := by unfold iJ; rw [hr, ho]
  exact aG (fun _ _ => eU rfl rfl) ⟨rfl, e9⟩
 refine ZDH ?_
 refine KC (fun q2 z2 => ?_) (fun q2 z2 => ?_)
 ·refine ZBr ?_
  refine RW (dO rfl rfl y_b) rfl y_ei (ZDH ?_)
  refine ZBh ?_
  refine ZDl ?_
  have hk : k % 8 = 4 := by omega
  have hr : eC k a f = a * 2 % 256 := by unfold eC; rw [hk]; rfl
  refine ZEd fun ho => ?_
  have e9 : Value.tuple #[.int .u8 (a * 2 % 256), .int .u8 (fl ((a * 2 % 256) == 0) false false (a / 128 == 1))] = .tuple #[.int .u8 (eC k a f), .int .u8 (iJ k a f)] := by unfold iJ; rw [hr, ho]
  exact aG (fun _ _ => eU rfl rfl) ⟨rfl, e9⟩
 refine ZDH ?_
 refine KC (fun q3 z3 => ?_) (fun q3 z3 => ?_)
 ·refine ZBr ?_
  refine RLv K_ (wQ_ (aRq a ha)) ?_
  refine ZEf ?_
  refine ZBh ?_
  refine ZDl ?_
  have hk : k % 8 = 6 := by omega
  have hr : eC k a f = a % 16 * 16 + a / 16 := by unfold eC; rw [hk]; rfl
  have ho : turnO k a = ((0 : Int) == 1) := by unfold turnO; rw [hk]; rfl
  rw [x16 (x := 0) o_m, or_zc]
  have e9 : Value.tuple #[.int .u8 (a % 16 * 16 + a / 16), .int .u8 (fl ((a % 16 * 16 + a / 16) == 0) false false ((0 : Int) == 1))] = .tuple #[.int .u8 (eC k a f), .int .u8 (iJ k a f)] := by unfold iJ; rw [hr, ho]
  exact aG (fun _ _ => eU rfl rfl) ⟨rfl, e9⟩
 refine ZDH ?_
 refine KC (fun q4 z4 => ?_) (fun q4 z4 => ?_)
 ·refine ZEf ?_
  refine ZDh ?_
  refine ZBL ?_
  refine RW (dO rfl rfl y_b) rfl y_ey (RW (v := (.int .u8 (a / 2 + a % 2 * 128))) (cT rfl rfl) rfl (cA_ _ (aQh ha)) (A_9 ?_))
  refine ZBh ?_
  refine ZDl ?_
  have hk : k % 8 = 1 := by omega
  have hr : eC k a f = a / 2 + a % 2 * 128 := by unfold eC; rw [hk]; rfl
  refine ZC6 fun ho => ?_
  have e9 : Value.tuple #[.int .u8 (a / 2 + a % 2 * 128), .int .u8 (fl ((a / 2 + a % 2 * 128) == 0) false false (a % 2 == 1))] = .tuple #[.int .u8 (eC k a f), .int .u8 (iJ k a f)] := by unfold iJ; rw [hr, ho]
  exact aG (fun _ _ => eU rfl rfl) ⟨rfl, e9⟩
 refine ZDH ?_
 refine KC (fun q5 z5 => ?_) (fun q5 z5 => ?_)
 ·refine ZBr ?_
  refine ZDh ?_
  refine ZBL ?_
  refine RW (dO rfl rfl y_b) rfl y_ey (RW (v := (.int .u8 (a / 2 + b2i (cF f) * 128))) (cT rfl rfl) rfl (cA_ _ (aQ1 ha _)) (A_9 ?_))
  refine ZBh ?_
  refine ZDl ?_
  have hk : k % 8 = 3 := by omega
  have hr : eC k a f = a / 2 + b2i (cF f) * 128 := by unfold eC; rw [hk]; rfl
  refine ZC6 fun ho => ?_
  have e9 : Value.tuple #[.int .u8 (a / 2 + b2i (cF f) * 128), .int .u8 (fl ((a / 2 + b2i (cF f) * 128) == 0) false false (a % 2 == 1))] = .tuple #[.int .u8 (eC k a f), .int .u8 (iJ k a f)] := by unfold iJ; rw [hr, ho]
  exact aG (fun _ _ => eU rfl rfl) ⟨rfl, e9⟩
 refine ZDH ?_
 refine KC (fun q6 z6 => ?_) (fun q6 z6 => ?_)
 ·refine ZBr ?_
  refine ZDh ?_
  refine ZBL ?_
  refine ZEN ?_
  refine RW (v := (.int .u8 (a / 2 + a / 128 * 128))) (cT rfl rfl) rfl (cA_ _ (aRc ha)) (A_9 ?_)
  refine ZBh ?_
  refine ZDl ?_
  have hk : k % 8 = 5 := by omega
  have hr : eC k a f = a / 2 + a / 128 * 128 := by unfold eC; rw [hk]; rfl
  refine ZC6 fun ho => ?_
  have e9 : Value.tuple #[.int .u8 (a / 2 + a / 128 * 128), .int .u8 (fl ((a / 2 + a / 128 * 128) == 0) false false (a % 2 == 1))] = .tuple #[.int .u8 (eC k a f), .int .u8 (iJ k a f)] := by unfold iJ; rw [hr, ho]
  exact aG (fun _ _ => eU rfl rfl) ⟨rfl, e9⟩
 refine ZBn ?_
 refine KC (fun q7 z7 => ?_) (fun q7 z7 => ?_)
 ·refine ZBr ?_
  refine ZDh ?_
  refine A_9 ?_
  refine ZBh ?_
  refine ZDl ?_
  have hk : k % 8 = 7 := by omega
  have hr : eC k a f = a / 2 := by unfold eC; rw [hk]; rfl
  refine ZC6 fun ho => ?_
  have e9 : Value.tuple #[.int .u8 (a / 2), .int .u8 (fl ((a / 2) == 0) false false (a % 2 == 1))] = .tuple #[.int .u8 (eC k a f), .int .u8 (iJ k a f)] := by unfold iJ; rw [hr, ho]
  exact aG (fun _ _ => eU rfl rfl) ⟨rfl, e9⟩
 refine ZBn ?_
 refine ZBh ?_
 refine ZDl ?_
 exfalso; omega
def rpair_fn {β : Type} (K : kF prog β) (rb : Nat) (s : CS) (hr : s.r.Ok) (w : AI) (hrow : Row w rb 0 (cN K s)) (n : Int) : aB prog 219 [P_ rb, .int .i64 n] w [] (V_ (.int .u16 (bH s.r n))) := by
 refine dR_ func219 ?_
 refine A_10 ?_
 refine RZ (aK rfl rfl rfl (aN (Row.left (Row.left hrow)) y_r)) rfl (ZBL ?_)
 refine RX (bI K_ rfl (wQ_ (aQl s.r hr n))) rfl ?_
 rintro _ _ ⟨G0, ⟨rfl, k14, rfl⟩, rfl⟩
 refine A_12 ?_
 exact E0 rfl ⟨rfl, rfl⟩
def jJ {β : Type} (K : kF prog β) (rb : Nat) {bn : Nat} (x : Rn β) (h : RunOk K.toaVh bn x) (G : aC) (hG : K.rep x.m G) (n p : Int) (hp : 0 ≤ p ∧ p < 65536) (w : AI) (hst : St w (rb :: G.map (·.1)) ((rb, blk (cN K x.s) 321) :: G) w) : aB prog 218 [P_ rb, .int .i64 n, .int .u16 p] w (rb :: G.map (·.1)) (fun v H => v = .tuple #[] ∧ qO K rb (x.reg (fB x.s.r n p)) H) := by
 refine dO_ func218 hst ?_
 refine ZBn ?_
 refine ZDO ?_
 refine ZAl ?_
 refine RX (bI K_ rfl (wQ_ (aJf x.s.r n p hp))) rfl ?_
 rintro _ _ ⟨G0, ⟨rfl, k15, rfl⟩, rfl⟩
 refine ZBn ?_
 refine RZ (xS_ (l' := cN K { x.s with r := fB x.s.r n p }) 0) rfl (ZFI ?_)
 exact EN sR_ ⟨rfl, G, rfl, hG⟩
def rget_fn {β : Type} (K : kF prog β) (rb : Nat) {bn : Nat} (x : Rn β) (h : RunOk K.toaVh (bn + 1) x) (G : aC) (hG : K.rep x.m G) (n : Int) (w : AI) (hst : St w (rb :: G.map (·.1)) ((rb, blk (cN K x.s) 321) :: G) w) : aB prog 209 [P_ rb, .int .i64 n] w (rb :: G.map (·.1)) (fun v H => v = .int .u8 (gett K.toaVg n x).1 ∧ ∃ G', H = (rb, blk (cN K x.s) 321) :: G' ∧ K.rep (gett K.toaVg n x).2.m G') := by
 refine dO_ func209 hst ?_
 refine A_10 ?_
 refine KC (fun q0 z0 => ?_) (fun q0 z0 => ?_)
 ·refine ZBL ?_
  obtain rfl : n = 6 := by omega
  refine DR [4, 5] (pln [0, 2, 4, 6, 8, 12, 14, 11, 17, 18]) ?_
  refine ZDH ?_
  refine DZ rfl (bJ K_ rfl (fun w hw => rpair_fn K rb x.s h.r w (aA m_m w hw) 2)) rfl y_d (DX rfl (gP (F := [(rb, _)]) (A := G) rfl K.mR K.cR rfl (fun w hw => K.dR h.m hG (St.lentV hw) (fV h.r 2))) rfl n_h ?_)
  rintro _ _ ⟨G0, ⟨rfl, hG0⟩, rfl⟩
  refine ZA1 ?_
  exact EV rfl sR_ ⟨rfl, G0, rfl, hG0⟩
 refine ZDH ?_
 refine ZDO ?_
 refine ZBL ?_
 refine RX (bI K_ rfl (wQ_ (aTa x.s.r n))) rfl ?_
 rintro _ _ ⟨G0, ⟨rfl, k25, rfl⟩, rfl⟩
 refine A_12 ?_
 have hn : gett K.toaVg n x = (aAy x.s.r n, x) := if_neg o_m
 exact EV rfl sR_ ⟨by rw [hn], G, rfl, by rw [hn]; exact hG⟩
def wU {β : Type} (K : kF prog β) (rb : Nat) {bn : Nat} (x : Rn β) (h : RunOk K.toaVh (bn + 1) x) (G : aC) (hG : K.rep x.m G) (n u : Int) (hu : 0 ≤ u ∧ u < 256) (w : AI) (hst : St w (rb :: G.map (·.1)) ((rb, blk (cN K x.s) 321) :: G) w) : aB prog 208 [P_ rb, .int .i64 n, .int .u8 u] w (rb :: G.map (·.1)) (fun v H => v = .tuple #[] ∧ qO K rb (sett K.toaVg n u x) H) := by
 refine dO_ func208 hst ?_
 refine ZBn ?_
 refine KC (fun q0 z0 => ?_) (fun q0 z0 => ?_)
 ·refine ZBL ?_
  obtain rfl : n = 6 := by omega
  refine DR [4, 5, 6] (pln [0, 2, 4, 6, 8, 12, 14, 16, 11, 19]) ?_
  refine ZEf ?_
  refine DZ rfl (bJ K_ rfl (fun w hw => rpair_fn K rb x.s h.r w (aA m_m w hw) 2)) rfl y_d (DX rfl (gP (F := [(rb, _)]) (A := G) rfl K.mW K.cW rfl (fun w hw => K.dW h.m hG (St.lentV hw) (fV h.r 2) hu)) rfl n_h ?_)
  rintro _ _ ⟨G0, ⟨rfl, hG0⟩, rfl⟩
  refine ZAl ?_
  exact EN sR_ ⟨rfl, G0, rfl, hG0⟩
 refine ZDH ?_
 refine ZDO ?_
 refine ZAl ?_
 refine RX (bI K_ rfl (wQ_ (aSc x.s.r n u))) rfl ?_
 rintro _ _ ⟨G0, ⟨rfl, k27, rfl⟩, rfl⟩
 refine ZBn ?_
 refine RZ (xS_ (l' := cN K { x.s with r := pI x.s.r n u }) 0) rfl (ZFI ?_)
 have hn : sett K.toaVg n u x = x.reg (pI x.s.r n u) := if_neg o_m
 exact EN sR_ ⟨rfl, by rw [hn]; exact ⟨G, rfl, hG⟩⟩
def ridle_fn {β : Type} (K : kF prog β) (rb : Nat) {bn : Nat} (n : Nat) (hn : n ≤ 1000) (x : Rn β) (h : RunOk K.toaVh (bn + n) x) (G : aC) (hG : K.rep x.m G) (w : AI) (hst : St w (rb :: G.map (·.1)) ((rb, blk (cN K x.s) 321) :: G) w) : aB prog 168 [P_ rb, .int .i64 n] w (rb :: G.map (·.1)) (fun v H => v = .tuple #[] ∧ qO K rb (idles K.toaVg n x) H) := by
 have hs9 : ∀ i, (idles K.toaVg i x).s = x.s := fun i => by induction i with | zero => rfl | succ i ih => exact ih
 refine dO_ func168 hst ?_
 refine ZBn ?_
 refine bD (σ := Nat × aC) [5, 6, 7, 8, 9, 10, 11, 12] (fun s => [(5, .int .i64 s.1)]) (fun s => (rb, blk (cN K x.s) 321) :: s.2) (fun s => s.1 ≤ n ∧ K.rep (idles K.toaVg s.1 x).m s.2) (fun s => n - s.1) (0, G) ?_ ?_ ?_ ?_
 ·exact ⟨al _, hG⟩
 ·exact .cons rfl .nil
 ·exact fun _ h => h
 rintro ⟨i, Gi⟩ y1 ⟨hi, hGi⟩
 dsimp only at hi hGi ⊢
 refine ZBb ?_
 refine KC (fun q0 z0 => ?_) (fun q0 z0 => ?_)
 ·refine ZEf ?_
  refine RX (gP (F := [(rb, _)]) (A := Gi) rfl K.mI K.cI rfl (fun w hw => K.dI (K.oL (k := 0 + 1) (h.idles i hi).m o_m) hGi (St.lentV hw))) rfl ?_
  rintro _ _ ⟨G0, ⟨rfl, hG0⟩, rfl⟩
  refine ZAl ?_
  refine ZAD ?_
  exact ⟨(i + 1, G0), ⟨y_y, hG0⟩, y_cB, .cons rfl .nil, a_g, fun _ h => h⟩
 refine ZBL ?_
 obtain rfl : i = n := by omega
 exact EN sR_ ⟨rfl, Gi, by rw [hs9], hGi⟩
def rpush_fn {β : Type} (K : kF prog β) (rb : Nat) {bn : Nat} (x : Rn β) (h : RunOk K.toaVh (bn + 2) x) (G : aC) (hG : K.rep x.m G) (p : Int) (hp : 0 ≤ p ∧ p < 65536) (w : AI) (hst : St w (rb :: G.map (·.1)) ((rb, blk (cN K x.s) 321) :: G) w) : aB prog 193 [P_ rb, .int .u16 p] w (rb :: G.map (·.1)) (fun v H => v = .tuple #[] ∧ qO K rb (push K.toaVg p x) H) := by
 refine dO_ func193 hst ?_
 refine ZA1 ?_
 refine RW (dU rfl rfl y_b) rfl (iY 256 y_b y_b) (RW (dN rfl rfl rfl) rfl y_o (ZBL ?_))
 refine RW (dN rfl rfl rfl) rfl y_o (RX (dX rfl rfl rfl rfl rfl rfl) rfl (ZAq fun b0 => ?_))
 refine ZC1 ?_
 refine bD (σ := Nat × aC) [5, 13, 14, 15, 16, 17, 18, 19, 20, 21, 22, 23, 24, 25, 26, 27, 28, 29, 30, 31, 32, 33, 34, 35, 36, 37, 38, 39, 40, 41, 42] (fun s => [(13, .int .i64 s.1)]) (fun s => (b0, blk [.int .u8 (p / 256), .int .u8 (p % 256)] 5) :: (rb, blk (cN K (pushN K.toaVg p x s.1).s) 321) :: s.2) (fun s => s.1 ≤ 2 ∧ K.rep (pushN K.toaVg p x s.1).m s.2) (fun s => 2 - s.1) (0, G) ?_ ?_ ?_ ?_
 ·exact ⟨al _, hG⟩
 ·exact .cons rfl .nil
 ·exact fun _ h => h
 rintro ⟨i, Gi⟩ y1 ⟨hi, hGi⟩
 dsimp only at hi hGi ⊢
 refine ZBb ?_
 refine KC (fun q0 z0 => ?_) (fun q0 z0 => ?_)
 ·refine ZBr ?_
  have hx9 := (h.pushN hp i o_m).le (k := 0 + 1) o_m
  have hk9 := hx9.r.sp
  refine ZBL ?_
  refine ZBX ?_
  refine RZ (aE rfl rfl (aJ (b := b0) m_m (aJA p o_m))) rfl (A_10 ?_)
  refine RW (iV rfl rfl) rfl y_q (ZBr ?_)
  refine RZ (xS_ (l' := cN K { (pushN K.toaVg p x i).s with r := { (pushN K.toaVg p x i).s.r with sp := lF (pushN K.toaVg p x i).s.r.sp } }) 1) rfl (ZFI ?_)
  refine ZBN ?_
  refine DX rfl (gP (F := [(b0, _), (rb, _)]) (A := Gi) rfl K.mW K.cW rfl (fun w hw => K.dW hx9.m hGi (St.lentV hw) nA (aD9 hp i))) rfl n_h ?_
  rintro _ _ ⟨G0, ⟨rfl, hG0⟩, rfl⟩
  refine ZAl ?_
  refine ZAD ?_
  exact ⟨(i + 1, G0), ⟨y_y, hG0⟩, y_cB, .cons rfl .nil, a_g, fun _ h => h⟩
 refine ZBL ?_
 obtain rfl : i = 2 := by omega
 exact EN (.cons _ sR_) ⟨rfl, Gi, rfl, hGi⟩
def aBm {β : Type} (K : kF prog β) (rb : Nat) {bn : Nat} (x : Rn β) (h : RunOk K.toaVh (bn + 2) x) (G : aC) (hG : K.rep x.m G) (w : AI) (hst : St w (rb :: G.map (·.1)) ((rb, blk (cN K x.s) 321) :: G) w) : aB prog 222 [P_ rb] w (rb :: G.map (·.1)) (fun v H => v = .int .u16 (pop K.toaVg x).1 ∧ qO K rb ((pop K.toaVg x).2) H) := by
 refine dO_ func222 hst ?_
 refine A_14 ?_
 refine bD (σ := Nat × aC) [3, 4, 5, 6, 7, 8, 9, 10, 11, 12, 13, 14, 15, 16, 17, 18, 19, 20, 21, 22, 23, 24, 25, 26, 27, 28, 29, 30, 31, 32, 33, 34, 35, 36, 37, 38] (fun s => [(3, .int .u16 (popN K.toaVg x s.1).1), (5, .int .i64 s.1)]) (fun s => (rb, blk (cN K (popN K.toaVg x s.1).2.s) 321) :: s.2) (fun s => s.1 ≤ 2 ∧ K.rep (popN K.toaVg x s.1).2.m s.2) (fun s => 2 - s.1) (0, G) ?_ ?_ ?_ ?_
 ·exact ⟨al _, hG⟩
 ·exact .cons rfl (.cons rfl .nil)
 ·exact fun _ h => h
 rintro ⟨i, Gi⟩ y3 ⟨hi, hGi⟩
 dsimp only at hi hGi ⊢
 refine ZBb ?_
 refine KC (fun q0 z0 => ?_) (fun q0 z0 => ?_)
 ·refine ZBr ?_
  have hx9 := (h.popN i o_m).le (k := 0 + 1) o_m
  have hk9 := hx9.r.sp
  have hv9 : 0 ≤ (K.read (popN K.toaVg x i).2.s.r.sp (popN K.toaVg x i).2.m).1 ∧ (K.read (popN K.toaVg x i).2.s.r.sp (popN K.toaVg x i).2.m).1 < 256 := hx9.pop1.2
  have ha9 := aQF (h.le (k := 0 + 1) o_m) (i := i) o_m
  refine ZBb ?_
  refine DR [5, 6, 7, 8, 9, 10, 11, 12, 15, 16] (pln [0, 2, 4, 6, 8, 10, 12, 14, 16, 18, 20, 22, 24, 30, 32, 27, 28, 34, 36, 38]) ?_
  refine A_14 ?_
  refine DW rfl (yR rfl rfl) rfl y_c (DX rfl (gP (F := [(rb, _)]) (A := Gi) rfl K.mR K.cR rfl (fun w hw => K.dR hx9.m hGi (St.lentV hw) hk9)) rfl n_h ?_)
  rintro _ _ ⟨G0, ⟨rfl, hG0⟩, rfl⟩
  refine DW rfl (dN rfl rfl rfl) rfl y_q (DW (v := (.int .u16 (shl .u16 (K.read (popN K.toaVg x i).2.s.r.sp (popN K.toaVg x i).2.m).1 (8 * (i : Int))))) rfl (dO rfl rfl o_m) rfl rfl (DW (v := (.int .u16 (popN K.toaVg x (i + 1)).1)) rfl (cT rfl rfl) rfl (cA_ _ (aDk o_m ha9 (fun h => by subst h; rfl) hv9)) (A_9 ?_)))
  refine RW (jD rfl rfl) rfl y_q (ZBr ?_)
  refine RZ (xS_ (l' := cN K { (popN K.toaVg x i).2.s with r := { (popN K.toaVg x i).2.s.r with sp := iT (popN K.toaVg x i).2.s.r.sp } }) 0) rfl (ZDb ?_)
  refine ZAD ?_
  exact ⟨(i + 1, G0), ⟨y_y, hG0⟩, y_cB, .cons rfl (.cons rfl .nil), a_g, fun _ h => h⟩
 refine ZDH ?_
 obtain rfl : i = 2 := by omega
 exact EV rfl sR_ ⟨by rw [← aGo], Gi, by rw [← aGo], by rw [← aGo]; exact hGi⟩
def aHM {β : Type} (K : kF prog β) (rb : Nat) {bn : Nat} (x : Rn β) (h : RunOk K.toaVh bn x) (G : aC) (hG : K.rep x.m G) (k u : Int) (hu : 0 ≤ u ∧ u < 256) (w : AI) (hst : St w (rb :: G.map (·.1)) ((rb, blk (cN K x.s) 321) :: G) w) : aB prog 210 [P_ rb, .int .i64 k, .int .u8 u] w (rb :: G.map (·.1)) (fun v H => v = .tuple #[] ∧ qO K rb (x.reg (jE x.s.r k u)) H) := by
 refine dO_ func210 hst ?_
 refine ZBL ?_
 refine DR [6, 7, 8, 9, 10, 11, 12, 13, 14] (pln [0, 2, 4, 6, 8, 10, 12, 14, 16, 18, 20, 22, 24, 26, 28, 30]) ?_
 refine A_12 ?_
 refine DW (v := (.int .u8 (aH .u8 x.s.r.f 16))) rfl rfl rfl rfl (DW (v := (.bool (cF x.s.r.f))) rfl rfl rfl (cA_ _ (aIi h.r.f)) (A_9 ?_))
 refine jC (σ := Unit) [23, 24, 25] (fun _ => [(23, .bool (decide (k = 0 ∨ k = 1)))]) (fun _ => (rb, blk (cN K x.s) 321) :: G) (fun _ => True) ?_ ?_
 ·refine ZBb ?_
  refine KC (fun q0 z0 => ?_) (fun q0 z0 => ?_)
  ·refine ZBL ?_
   exact ⟨(), trivial, .cons (cA_ Value.bool y_b1) .nil, a_g, fun _ h => h⟩
  refine ZBr ?_
  exact ⟨(), trivial, .cons (cA_ Value.bool y_b1) .nil, a_g, fun _ h => h⟩
 rintro _ yc23 _
 refine KC (fun q0 z0 => ?_) (fun q0 z0 => ?_)
 ·refine ZBn ?_
  refine KL (fun q1 z1 => ?_) (fun q1 z1 => ?_)
  ·refine ZA1 ?_
   refine RLv K_ (wQ_ (aCQ x.s.r.a u (k == 1) h.r.a hu)) ?_
   refine ZDH ?_
   refine RZ (xS_ (l' := cN K { x.s with r := { x.s.r with a := oK x.s.r.a u (k == 1) } }) 0) rfl (ZCz ?_)
   refine RZ (xS_ (l' := cN K { x.s with r := { x.s.r with a := oK x.s.r.a u (k == 1), f := aAR x.s.r.a u (k == 1) } }) 0) rfl (ZCz ?_)
   refine ZAB ?_
   refine ZA1 ?_
   have e9 : jE x.s.r k u = { x.s.r with a := oK x.s.r.a u (k == 1), f := aAR x.s.r.a u (k == 1) } := by
    rcases (show k = 0 ∨ k = 1 by omega) with rfl | rfl <;> simp_all [jE]
   exact EN sR_ ⟨rfl, G, y_cu, hG⟩
  refine ZA1 ?_
  refine RLv K_ (wQ_ (aCQ x.s.r.a u false h.r.a hu)) ?_
  refine ZDH ?_
  refine RZ (xS_ (l' := cN K { x.s with r := { x.s.r with a := oK x.s.r.a u false } }) 0) rfl (ZCz ?_)
  refine RZ (xS_ (l' := cN K { x.s with r := { x.s.r with a := oK x.s.r.a u false, f := aAR x.s.r.a u false } }) 0) rfl (ZCz ?_)
  refine ZAB ?_
  refine ZA1 ?_
  have e9 : jE x.s.r k u = { x.s.r with a := oK x.s.r.a u false, f := aAR x.s.r.a u false } := by
   rcases (show k = 0 ∨ k = 1 by omega) with rfl | rfl <;> simp_all [jE]
  exact EN sR_ ⟨rfl, G, y_cu, hG⟩
 refine jC (σ := Unit) [47, 48, 49, 50] (fun _ => [(47, .bool (decide (k = 2 ∨ k = 3 ∨ k = 7)))]) (fun _ => (rb, blk (cN K x.s) 321) :: G) (fun _ => True) ?_ ?_
 ·refine ZBb ?_
  refine KC (fun q1 z1 => ?_) (fun q1 z1 => ?_)
  ·refine ZBL ?_
   exact ⟨(), trivial, .cons (cA_ Value.bool y_b1) .nil, a_g, fun _ h => h⟩
  refine ZBb ?_
  refine KC (fun q2 z2 => ?_) (fun q2 z2 => ?_)
  ·refine ZBL ?_
   exact ⟨(), trivial, .cons (cA_ Value.bool y_b1) .nil, a_g, fun _ h => h⟩
  refine ZBr ?_
  exact ⟨(), trivial, .cons (cA_ Value.bool y_b1) .nil, a_g, fun _ h => h⟩
 rintro _ yc47 _
 refine KC (fun q1 z1 => ?_) (fun q1 z1 => ?_)
 ·refine ZBn ?_
  refine KL (fun q2 z2 => ?_) (fun q2 z2 => ?_)
  ·refine ZA1 ?_
   refine RLv K_ (wQ_ (aMq x.s.r.a u (k == 3) h.r.a hu)) ?_
   refine ZDH ?_
   refine RZ (xS_ (l' := cN K { x.s with r := { x.s.r with a := oY x.s.r.a u (k == 3) } }) 0) rfl (ZCz ?_)
   refine RZ (xS_ (l' := cN K { x.s with r := { x.s.r with a := oY x.s.r.a u (k == 3), f := rM x.s.r.a u (k == 3) } }) 0) rfl (ZCp ?_)
   refine KC (fun q3 z3 => ?_) (fun q3 z3 => ?_)
   ·refine ZDH ?_
    refine RZ (xS_ (l' := cN K { x.s with r := { x.s.r with a := x.s.r.a, f := rM x.s.r.a u (k == 3) } }) 0) rfl (ZFI ?_)
    have e9 : jE x.s.r k u = { x.s.r with a := x.s.r.a, f := rM x.s.r.a u (k == 3) } := by
     obtain rfl : k = 7 := by omega
     simp_all [jE]
    exact EN sR_ ⟨rfl, G, y_cu, hG⟩
   refine ZBL ?_
   have e9 : jE x.s.r k u = { x.s.r with a := oY x.s.r.a u (k == 3), f := rM x.s.r.a u (k == 3) } := by
    rcases (show k = 2 ∨ k = 3 by omega) with rfl | rfl <;> simp_all [jE]
   exact EN sR_ ⟨rfl, G, y_cu, hG⟩
  refine ZA1 ?_
  refine RLv K_ (wQ_ (aMq x.s.r.a u false h.r.a hu)) ?_
  refine ZDH ?_
  refine RZ (xS_ (l' := cN K { x.s with r := { x.s.r with a := oY x.s.r.a u false } }) 0) rfl (ZCz ?_)
  refine RZ (xS_ (l' := cN K { x.s with r := { x.s.r with a := oY x.s.r.a u false, f := rM x.s.r.a u false } }) 0) rfl (ZCp ?_)
  refine KC (fun q3 z3 => ?_) (fun q3 z3 => ?_)
  ·refine ZDH ?_
   refine RZ (xS_ (l' := cN K { x.s with r := { x.s.r with a := x.s.r.a, f := rM x.s.r.a u false } }) 0) rfl (ZFI ?_)
   have e9 : jE x.s.r k u = { x.s.r with a := x.s.r.a, f := rM x.s.r.a u false } := by
    obtain rfl : k = 7 := by omega
    simp_all [jE]
   exact EN sR_ ⟨rfl, G, y_cu, hG⟩
  refine ZBL ?_
  have e9 : jE x.s.r k u = { x.s.r with a := oY x.s.r.a u false, f := rM x.s.r.a u false } := by
   rcases (show k = 2 ∨ k = 3 by omega) with rfl | rfl <;> simp_all [jE]
  exact EN sR_ ⟨rfl, G, y_cu, hG⟩
 refine ZBb ?_
 refine KC (fun q2 z2 => ?_) (fun q2 z2 => ?_)
 ·refine ZBb ?_
  refine RLv K_ (wQ_ (aS1 x.s.r.a u h.r.a hu)) ?_
  refine ZDH ?_
  refine RZ (xS_ (l' := cN K { x.s with r := { x.s.r with a := aH .u8 x.s.r.a u } }) 0) rfl (ZCz ?_)
  refine RZ (xS_ (l' := cN K { x.s with r := { x.s.r with a := aH .u8 x.s.r.a u, f := rW 0 (aH .u8 x.s.r.a u) } }) 0) rfl (ZCz ?_)
  refine ZAB ?_
  refine ZA1 ?_
  have e9 : jE x.s.r k u = { x.s.r with a := aH .u8 x.s.r.a u, f := rW 0 (aH .u8 x.s.r.a u) } := by
   obtain rfl : k = 4 := by omega
   rfl
  exact EN sR_ ⟨rfl, G, y_cu, hG⟩
 refine ZBb ?_
 refine KC (fun q3 z3 => ?_) (fun q3 z3 => ?_)
 ·refine ZBb ?_
  refine RLv K_ (wQ_ (aTD x.s.r.a u h.r.a hu)) ?_
  refine ZDH ?_
  refine RZ (xS_ (l' := cN K { x.s with r := { x.s.r with a := kM .u8 x.s.r.a u } }) 0) rfl (ZCz ?_)
  refine RZ (xS_ (l' := cN K { x.s with r := { x.s.r with a := kM .u8 x.s.r.a u, f := rW 2 (kM .u8 x.s.r.a u) } }) 0) rfl (ZCz ?_)
  refine ZAB ?_
  refine ZA1 ?_
  have e9 : jE x.s.r k u = { x.s.r with a := kM .u8 x.s.r.a u, f := rW 2 (kM .u8 x.s.r.a u) } := by
   obtain rfl : k = 5 := by omega
   rfl
  exact EN sR_ ⟨rfl, G, y_cu, hG⟩
 refine ZBb ?_
 refine KC (fun q4 z4 => ?_) (fun q4 z4 => ?_)
 ·refine ZBb ?_
  refine RLv K_ (wQ_ (aUb x.s.r.a u h.r.a hu)) ?_
  refine ZDH ?_
  refine RZ (xS_ (l' := cN K { x.s with r := { x.s.r with a := bor .u8 x.s.r.a u } }) 0) rfl (ZCz ?_)
  refine RZ (xS_ (l' := cN K { x.s with r := { x.s.r with a := bor .u8 x.s.r.a u, f := rW 1 (bor .u8 x.s.r.a u) } }) 0) rfl (ZCz ?_)
  refine ZAB ?_
  refine ZA1 ?_
  have e9 : jE x.s.r k u = { x.s.r with a := bor .u8 x.s.r.a u, f := rW 1 (bor .u8 x.s.r.a u) } := by
   obtain rfl : k = 6 := by omega
   rfl
  exact EN sR_ ⟨rfl, G, y_cu, hG⟩
 refine ZBr ?_
 refine ZAB ?_
 refine ZA1 ?_
 exact EN sR_ ⟨rfl, G, by rw [show jE x.s.r k u = x.s.r by unfold jE; repeat rw [if_neg o_m]]; rfl, hG⟩
def zA {β : Type} (K : kF prog β) (rb : Nat) {bn : Nat} (x : Rn β) (h : RunOk K.toaVh (bn + 2) x) (G : aC) (hG : K.rep x.m G) (n : Int) (ff : Nat) (V1 V2 : AA) (hcf : dG prog ff = true) (gg : Int → Int → Int × Int) (hgb : ∀ a f, 0 ≤ a ∧ a < 256 → 0 ≤ f ∧ f < 256 → (0 ≤ (gg a f).1 ∧ (gg a f).1 < 256) ∧ (0 ≤ (gg a f).2 ∧ (gg a f).2 < 256)) (w : AI) (hst : St w (rb :: G.map (·.1)) ((rb, blk (cN K x.s) 321) :: G) w) (hfun : ∀ (w' : AI) (H' : aC) (a f : Int), St w (rb :: G.map (·.1)) H' w' → 0 ≤ a ∧ a < 256 → 0 ≤ f ∧ f < 256 → aB prog ff (V1 ++ [.int .u8 a, .int .u8 f] ++ V2) w' [] (fun v H => H = [] ∧ v = .tuple #[.int .u8 (gg a f).1, .int .u8 (gg a f).2])) : aB prog 211 [P_ rb, .int .i64 n, .func (.func ff) V1.toArray V2.toArray] w (rb :: G.map (·.1)) (fun v H => v = .tuple #[] ∧ qO K rb (change K.toaVg n gg x) H) := by
 have hq9 := h.gett n
 have hb9 := hgb _ _ hq9.2 h.r.f
 refine dO_ func211 hst ?_
 refine ZBL ?_
 refine iE [(rb, blk (cN K x.s) 321)] [3] (.step true 0 (.step true 1 (.step true 2 (.step true 4 (.step true 5 (.step true 6 (.step true 7 (.step true 8 (.step true 9 (.step false 3 (.step false 10 (.step true 11 (.step true 12 (.step true 13 (.step true 14 (.step true 15 .done)))))))))))))))) rfl y_f y_f (fun x hx => y_Y) ?_
 refine A_9 ?_
 refine DX rfl (cB K_ rfl (wV_ (rget_fn K rb x h G hG n))) rfl (by rintro _ _ _ ⟨rfl, _, rfl, _⟩ x hx; obtain rfl := List.mem_singleton.1 hx; exact .head _) ?_
 rintro _ _ ⟨rfl, G0, rfl, hG0⟩
 refine DZ rfl (xE (A := V1) (B := V2) rfl hcf rfl (fun w hw => hfun w _ _ _ hw hq9.2 h.r.f)) rfl n_h (ZBy ?_)
 refine A_10 ?_
 refine RX (cB K_ rfl (wV_ (wU K rb (x.mem (gett K.toaVg n x).2.m) (h.gmem n) G0 hG0 n (gg (gett K.toaVg n x).1 x.s.r.f).1 hb9.1))) rfl ?_
 rintro _ _ ⟨rfl, G1, rfl, hG1⟩
 refine ZEf ?_
 refine RZ (xS_ (l' := cN K { (sett K.toaVg n (gg (gett K.toaVg n x).1 x.s.r.f).1 (x.mem (gett K.toaVg n x).2.m)).s with r := { (sett K.toaVg n (gg (gett K.toaVg n x).1 x.s.r.f).1 (x.mem (gett K.toaVg n x).2.m)).s.r with f := (gg (gett K.toaVg n x).1 x.s.r.f).2 } }) 0) rfl (ZFI ?_)
 have e9 : change K.toaVg n gg x = (sett K.toaVg n (gg (gett K.toaVg n x).1 x.s.r.f).1 (x.mem (gett K.toaVg n x).2.m)).reg { (sett K.toaVg n (gg (gett K.toaVg n x).1 x.s.r.f).1 (x.mem (gett K.toaVg n x).2.m)).s.r with f := (gg (gett K.toaVg n x).1 x.s.r.f).2 } := by unfold change; dsimp only; rw [pH]; rfl
 exact EN sR_ ⟨rfl, G1, y_cu, y_0⟩
def aEF {β : Type} (K : kF prog β) (rb : Nat) {bn : Nat} (x : Rn β) (h : RunOk K.toaVh bn x) (G : aC) (hG : K.rep x.m G) (n : Int) (w : AI) (hst : St w (rb :: G.map (·.1)) ((rb, blk (cN K x.s) 321) :: G) w) : aB prog 223 [P_ rb, .int .i64 n] w (rb :: G.map (·.1)) (fun v H => v = .int .u16 (far n x).1 ∧ qO K rb ((far n x).2) H) := by
 refine dO_ func223 hst ?_
 refine A_10 ?_
 refine KC (fun q0 z0 => ?_) (fun q0 z0 => ?_)
 ·refine ZBr ?_
  refine RLv K_ (fun w hw => rpair_fn K rb x.s h.r w (aA m_m w hw) n) ?_
  refine ZA1 ?_
  have e9 : far n x = (bH x.s.r n, x) := if_pos o_m
  exact EV rfl sR_ ⟨y_eQ, G, y_eQ, y_eb⟩
 refine ZBr ?_
 refine RLv K_ (fun w hw => rpair_fn K rb x.s h.r w (aA m_m w hw) 2) ?_
 refine ZEf ?_
 refine KC (fun q1 z1 => ?_) (fun q1 z1 => ?_)
 ·refine ZA1 ?_
  refine RW (v := (.int .u16 (iT (bH x.s.r 2)))) (jD rfl rfl) rfl (cA_ _ (gF _)) (RX (cB K_ rfl (wV_ (jJ K rb x h G hG 2 (iT (bH x.s.r 2)) lI))) rfl ?_)
  rintro _ _ ⟨rfl, G0, rfl, hG0⟩
  refine ZDH ?_
  have e9 : far n x = (bH x.s.r 2, x.reg (fB x.s.r 2 (iT (bH x.s.r 2)))) := by unfold far; rw [if_neg o_m, if_pos o_m]
  exact EV rfl sR_ ⟨y_eQ, G0, y_eQ, y_X⟩
 refine ZA1 ?_
 refine RW (v := (.int .u16 (lF (bH x.s.r 2)))) (iV rfl rfl) rfl (cA_ _ (gF _)) (RX (cB K_ rfl (wV_ (jJ K rb x h G hG 2 (lF (bH x.s.r 2)) nA))) rfl ?_)
 rintro _ _ ⟨rfl, G0, rfl, hG0⟩
 refine ZDH ?_
 have e9 : far n x = (bH x.s.r 2, x.reg (fB x.s.r 2 (lF (bH x.s.r 2)))) := by unfold far; rw [if_neg o_m, if_neg o_m]
 exact EV rfl sR_ ⟨y_eQ, G0, y_eQ, y_X⟩
end Go.Proofs.YtacejanlmhbddaaGreat
