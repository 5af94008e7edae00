/- Parts. -/
import Derived.Test.YtdbgagkcgdlnnaaGreatQtH
set_option maxRecDepth 100000
set_option maxHeartbeats 1000000
set_option linter.all false
namespace Go.Proofs.YtdbgagkcgdlnnaaGreat
open Go Go.VV Go.Proofs Go.RowKit Go.Proofs.Tryz
def opens_fn (x : Int) (hx : 0 ≤ x ∧ x < 256) (w : AI) : aC prog 188 [.int .u8 x] w [] (V_ (.bool (zK x))) := by
 refine dR_ func188 ?_
 refine ZDR ?_
 refine ZBf ?_
 exact ZAw
def aP5 (m : Bk) (h : m.Ok) (a x : Int) (ha : 0 ≤ a ∧ a < 32768) (hx : 0 ≤ x ∧ x < 256) (w : AI) : aC prog 184 [.agg (cBk m).toArray, .int .u16 a, .int .u8 x] w [] (V_ (.agg (cBk (oneB a x m)).toArray)) := by
 obtain ⟨kind, banks, ram, on, mode, low, high, last⟩ := m
 obtain ⟨k1, k2, k3, k4, k5, k6⟩ := h
 dsimp only at k1 k2 k3 k4 k5 k6
 refine dR_ func184 ?_
 refine ZAn ?_
 refine ZAO fun b0 => ?_
 refine ZAR fun b1 => ?_
 refine ZBx ?_
 refine RW (dK rfl rfl y_b) rfl (iK 8192 y_b y_b) (ZDR ?_)
 refine KC (fun q0 z0 => ?_) (fun q0 z0 => ?_)
 ·refine ZDs ?_
  refine ZD6 ?_
  exact ZBi
 refine ZBx ?_
 refine KC (fun q1 z1 => ?_) (fun q1 z1 => ?_)
 ·refine ZAn ?_
  refine RW (bA rfl rfl) rfl y_d9 (ZAU ?_)
  refine RY (kN rfl rfl) rfl (ZD6 ?_)
  exact ZBi
 refine ZBx ?_
 refine KC (fun q2 z2 => ?_) (fun q2 z2 => ?_)
 ·refine ZAn ?_
  refine RW (bA rfl rfl) rfl (by first | exact gR 2 4 y_b rfl o_m (show _ < (256 : Int) by omega) (show _ < (256 : Int) by decide) | rfl) (ZAU ?_)
  refine ZD6 ?_
  exact ZBi
 refine ZAn ?_
 refine RW (bA rfl rfl) rfl y_dM (ZAn ?_)
 refine ZAE ?_
 refine ZAc ?_
 exact ZBi
def aPv (m : Bk) (h : m.Ok) (a x : Int) (ha : 0 ≤ a ∧ a < 32768) (hx : 0 ≤ x ∧ x < 256) (w : AI) : aC prog 185 [.agg (cBk m).toArray, .int .u16 a, .int .u8 x] w [] (V_ (.agg (cBk (twoB a x m)).toArray)) := by
 obtain ⟨kind, banks, ram, on, mode, low, high, last⟩ := m
 obtain ⟨k1, k2, k3, k4, k5, k6⟩ := h
 dsimp only at k1 k2 k3 k4 k5 k6
 refine dR_ func185 ?_
 refine ZAn ?_
 refine ZAO fun b0 => ?_
 refine ZAR fun b1 => ?_
 refine A_9 ?_
 refine KC (fun q0 z0 => ?_) (fun q0 z0 => ?_)
 ·refine ZBB ?_
  refine ZAc ?_
  exact ZCj
 refine ZBB ?_
 refine RW (bA rfl rfl) rfl (by first | exact sO 8 y_b o_m (show _ < (65536 : Int) by omega) (show _ < (65536 : Int) by decide) | rfl) (ZBB ?_)
 refine KC (fun q1 z1 => ?_) (fun q1 z1 => ?_)
 ·refine ZDs ?_
  refine ZD6 ?_
  exact ZCj
 refine ZAn ?_
 refine ZBf ?_
 refine ZAU ?_
 refine RY (kN rfl rfl) rfl (ZD6 ?_)
 exact ZCj
def aKP (m : Bk) (h : m.Ok) (a x : Int) (ha : 0 ≤ a ∧ a < 32768) (hx : 0 ≤ x ∧ x < 256) (w : AI) : aC prog 186 [.agg (cBk m).toArray, .int .u16 a, .int .u8 x] w [] (V_ (.tuple #[.agg (cBk (threeB a x m)).toArray, .bool (heldB a x m)])) := by
 obtain ⟨kind, banks, ram, on, mode, low, high, last⟩ := m
 obtain ⟨k1, k2, k3, k4, k5, k6⟩ := h
 dsimp only at k1 k2 k3 k4 k5 k6
 refine dR_ func186 ?_
 refine ZAn ?_
 refine ZAO fun b0 => ?_
 refine ZAR fun b1 => ?_
 refine A_10 ?_
 refine RW (dK rfl rfl y_b) rfl (iK 8192 y_b y_b) (ZDR ?_)
 refine KC (fun q0 z0 => ?_) (fun q0 z0 => ?_)
 ·refine ZDs ?_
  refine ZD6 ?_
  refine ZAz ?_
  exact ZAV
 refine ZBx ?_
 refine KC (fun q1 z1 => ?_) (fun q1 z1 => ?_)
 ·refine ZAn ?_
  refine RW (bA rfl rfl) rfl (by first | exact gR 7 128 y_b rfl o_m (show _ < (256 : Int) by omega) (show _ < (256 : Int) by decide) | rfl) (ZAU ?_)
  refine RY (kN rfl rfl) rfl (ZD6 ?_)
  refine ZAz ?_
  exact ZAV
 refine ZBx ?_
 refine KC (fun q2 z2 => ?_) (fun q2 z2 => ?_)
 ·refine ZAn ?_
  refine ZBf ?_
  refine ZAU ?_
  refine ZD6 ?_
  refine ZAz ?_
  exact ZAV
 refine ZBx ?_
 refine KL (fun q3 z3 => ?_) (fun q3 z3 => ?_)
 ·refine A_8 ?_
  refine ZAE ?_
  refine ZAc ?_
  refine ZAz ?_
  have e1 : heldB a x ⟨kind, banks, ram, on, mode, low, high, last⟩ = (x == 1) := by unfold heldB; dsimp only; rw [Bool.eq_iff_iff]; simp only [decide_eq_true_eq, beq_iff_eq, Bool.false_eq_true, iff_false]; omega
  exact aF (fun w hw => bC rfl rfl rfl (aA (b := b1) m_m w hw) rfl) ⟨rfl, y_W⟩
 refine A_8 ?_
 refine ZAE ?_
 refine ZAc ?_
 refine ZAz ?_
 exact ZAV
def aM4 (m : Bk) (h : m.Ok) (a x : Int) (ha : 0 ≤ a ∧ a < 32768) (hx : 0 ≤ x ∧ x < 256) (w : AI) : aC prog 187 [.agg (cBk m).toArray, .int .u16 a, .int .u8 x] w [] (V_ (.agg (cBk (fiveB a x m)).toArray)) := by
 obtain ⟨kind, banks, ram, on, mode, low, high, last⟩ := m
 obtain ⟨k1, k2, k3, k4, k5, k6⟩ := h
 dsimp only at k1 k2 k3 k4 k5 k6
 refine dR_ func187 ?_
 refine ZAn ?_
 refine ZAO fun b0 => ?_
 refine ZAR fun b1 => ?_
 refine ZBx ?_
 refine RW (dK rfl rfl y_b) rfl (iK 4096 y_b y_b) (A_8 ?_)
 refine KC (fun q0 z0 => ?_) (fun q0 z0 => ?_)
 ·refine ZBR ?_
  refine fK true rfl q0 ?_
  refine ZDs ?_
  refine ZD6 ?_
  exact ZAk
 refine ZB6 ?_
 refine KC (fun q1 z1 => ?_) (fun q1 z1 => ?_)
 ·refine ZDs ?_
  refine ZD6 ?_
  exact ZAk
 refine ZBx ?_
 refine KC (fun q2 z2 => ?_) (fun q2 z2 => ?_)
 ·refine ZBB ?_
  refine RW (v := (.int .i64 (low / 256 * 256))) (sJ rfl rfl) rfl (cA_ (Value.int .i64) (aFw (n := low) o_m o_m)) (ZD7 ?_)
  refine RW (v := (.int .i64 (low / 256 * 256 + x))) (cM rfl rfl) rfl (cA_ (Value.int .i64) (aA1 (A := low / 256 * 256) o_m o_m o_m hx)) (ZD6 ?_)
  exact ZAk
 refine ZBx ?_
 refine KC (fun q3 z3 => ?_) (fun q3 z3 => ?_)
 ·refine ZBB ?_
  refine RW (v := (.int .i64 (low % 256))) (bA rfl rfl) rfl (cA_ _ (aFN _)) (ZBR ?_)
  refine RW (bA rfl rfl) rfl y_dM (ZAU ?_)
  refine RW (dJ rfl rfl y_b) rfl y_dS (RW (v := (.int .i64 (low % 256 + x % 2 * 256))) (cM rfl rfl) rfl (cA_ (Value.int .i64) (tZ (A := x % 2 * 256) o_m o_m o_m o_m)) (ZD6 ?_))
  exact ZAk
 refine ZB2 ?_
 refine KC (fun q4 z4 => ?_) (fun q4 z4 => ?_)
 ·refine ZBR ?_
  refine fK true rfl q4 ?_
  refine ZAn ?_
  refine ZBf ?_
  refine ZAU ?_
  refine ZD6 ?_
  exact ZAk
 refine ZB6 ?_
 refine KC (fun q5 z5 => ?_) (fun q5 z5 => ?_)
 ·refine ZAn ?_
  refine ZBf ?_
  refine ZAU ?_
  refine ZD6 ?_
  exact ZAk
 refine ZBB ?_
 refine ZAc ?_
 exact ZAk
def aJA (m : Bk) (h : m.Ok) (a x : Int) (ha : 0 ≤ a ∧ a < 65536) (hx : 0 ≤ x ∧ x < 256) (w : AI) : aC prog 183 [.agg (cBk m).toArray, .int .u16 a, .int .u8 x] w [] (V_ (.tuple #[.agg (cBk (writeB a x m)).toArray, .bool (latchB a x m)])) := by
 obtain ⟨kind, banks, ram, on, mode, low, high, last⟩ := m
 obtain ⟨k1, k2, k3, k4, k5, k6⟩ := h
 dsimp only at k1 k2 k3 k4 k5 k6
 refine dR_ func183 ?_
 refine ZAn ?_
 refine ZAO fun b0 => ?_
 refine ZAR fun b1 => ?_
 refine ZBx ?_
 refine RW (bA rfl rfl) rfl (by first | exact gR 15 32768 y_b rfl o_m (show _ < (65536 : Int) by omega) (show _ < (65536 : Int) by decide) | rfl) (A_14 ?_)
 refine KC (fun q0 z0 => ?_) (fun q0 z0 => ?_)
 ·refine ZAn ?_
  refine ZAc ?_
  refine ZAn ?_
  refine RLv K_ (wQ_ (aP5 ⟨kind, banks, ram, on, mode, low, high, last⟩ ⟨k1, k2, k3, k4, k5, k6⟩ (a % 32768) x o_m hx)) ?_
  refine ZAE ?_
  exact ZAj
 refine ZBx ?_
 refine KC (fun q1 z1 => ?_) (fun q1 z1 => ?_)
 ·refine ZAn ?_
  refine ZAc ?_
  refine ZAn ?_
  refine RLv K_ (wQ_ (aPv ⟨kind, banks, ram, on, mode, low, high, last⟩ ⟨k1, k2, k3, k4, k5, k6⟩ (a % 32768) x o_m hx)) ?_
  refine ZAE ?_
  exact ZAj
 refine ZBx ?_
 refine KC (fun q2 z2 => ?_) (fun q2 z2 => ?_)
 ·refine ZAn ?_
  refine ZAc ?_
  refine ZAn ?_
  refine RLv K_ (wQ_ (aKP ⟨kind, banks, ram, on, mode, low, high, last⟩ ⟨k1, k2, k3, k4, k5, k6⟩ (a % 32768) x o_m hx)) ?_
  refine ZAn ?_
  refine ZAE ?_
  have e1 : latchB a x ⟨kind, banks, ram, on, mode, low, high, last⟩ = heldB (a % 32768) x ⟨kind, banks, ram, on, mode, low, high, last⟩ := by unfold latchB; simp_all
  exact aF (fun w hw => bC rfl rfl rfl (aA (b := b1) m_m w hw) rfl) ⟨rfl, y_V⟩
 refine ZBx ?_
 refine KC (fun q3 z3 => ?_) (fun q3 z3 => ?_)
 ·refine ZAn ?_
  refine ZAc ?_
  refine ZAn ?_
  refine RLv K_ (wQ_ (aM4 ⟨kind, banks, ram, on, mode, low, high, last⟩ ⟨k1, k2, k3, k4, k5, k6⟩ (a % 32768) x o_m hx)) ?_
  refine ZAE ?_
  exact ZAj
 refine ZBB ?_
 refine ZAc ?_
 refine ZAE ?_
 exact ZAj
def aFv (m : Bk) (h : m.Ok) (hb : 0 < m.banks) (a : Int) (ha : 0 ≤ a ∧ a < 65536) (w : AI) : aC prog 87 [.agg (cBk m).toArray, .int .u16 a] w [] (V_ (.int .i64 (bankB a m))) := by
 obtain ⟨kind, banks, ram, on, mode, low, high, last⟩ := m
 obtain ⟨k1, k2, k3, k4, k5, k6⟩ := h
 dsimp only at k1 k2 k3 k4 k5 k6 hb
 refine dR_ func87 ?_
 refine ZAn ?_
 refine ZAO fun b0 => ?_
 refine A_9 ?_
 refine RW (bA rfl rfl) rfl (by first | exact sO 14 y_b o_m (show _ < (65536 : Int) by omega) (show _ < (65536 : Int) by decide) | rfl) (A_15 ?_)
 refine KC (fun q0 z0 => ?_) (fun q0 z0 => ?_)
 ·refine ZB6 ?_
  refine KC (fun q1 z1 => ?_) (fun q1 z1 => ?_)
  ·refine A_8 ?_
   exact ZDV
  exact ZEQ
 refine ZBx ?_
 refine KC (fun q1 z1 => ?_) (fun q1 z1 => ?_)
 ·refine ZB6 ?_
  refine KL (fun q2 z2 => ?_) (fun q2 z2 => ?_)
  ·refine A_8 ?_
   refine RW (dJ rfl rfl y_b) rfl y_eg (ZB2 ?_)
   refine KC (fun q3 z3 => ?_) (fun q3 z3 => ?_)
   ·refine ZB6 ?_
    refine ZAb ?_
    refine ZDR ?_
    exact ZDV
   exact ZEQ
  refine ZB6 ?_
  refine KC (fun q3 z3 => ?_) (fun q3 z3 => ?_)
  ·refine ZBB ?_
   refine RW (dJ rfl rfl y_b) rfl y_eg (ZB2 ?_)
   exact ZER
  refine ZBx ?_
  exact ZER
 refine ZB2 ?_
 refine KC (fun q2 z2 => ?_) (fun q2 z2 => ?_)
 ·refine ZBR ?_
  refine fK true rfl q2 ?_
  refine ZB6 ?_
  refine KC (fun q3 z3 => ?_) (fun q3 z3 => ?_)
  ·refine A_10 ?_
   exact ZDV
  exact ZEQ
 refine ZBx ?_
 refine KC (fun q3 z3 => ?_) (fun q3 z3 => ?_)
 ·refine ZBR ?_
  refine fK true rfl q3 ?_
  refine ZB6 ?_
  refine KC (fun q4 z4 => ?_) (fun q4 z4 => ?_)
  ·refine A_10 ?_
   exact ZDV
  exact ZEQ
 refine ZB6 ?_
 refine KC (fun q4 z4 => ?_) (fun q4 z4 => ?_)
 ·refine ZB6 ?_
  refine KC (fun q5 z5 => ?_) (fun q5 z5 => ?_)
  ·refine A_10 ?_
   exact ZDV
  exact ZEQ
 exact ZEQ
def aOV (m : Bk) (h : m.Ok) (hb : 0 < m.banks) (a : Int) (ha : 0 ≤ a ∧ a < 65536) (w : AI) : aC prog 245 [.agg (cBk m).toArray, .int .u16 a] w [] (V_ (.int .i64 (aAP a m))) := by
 have hb9 := aD6 h a
 have hb8 := h.banks
 refine dR_ func245 ?_
 refine ZAn ?_
 refine RX (dC (l := cBk m) rfl rfl) rfl (ZBz fun b0 => ?_)
 refine ZB6 ?_
 refine ZAc ?_
 refine ZBR ?_
 refine RLv K_ (wQ_ (aFv m h hb a ha)) ?_
 refine ZBu ?_
 refine ZD7 ?_
 refine ZBU ?_
 refine ZAb ?_
 exact ZAZ
def atB_fn (m : Bk) (h : m.Ok) (a : Int) (ha : 0 ≤ a ∧ a < 65536) (w : AI) : aC prog 259 [.agg (cBk m).toArray, .int .u16 a] w [] (V_ (atT (atB_ a m))) := by
 obtain ⟨kind, banks, ram, on, mode, low, high, last⟩ := m
 obtain ⟨k1, k2, k3, k4, k5, k6⟩ := h
 dsimp only at k1 k2 k3 k4 k5 k6
 refine dR_ func259 ?_
 refine ZAn ?_
 refine ZAO fun b0 => ?_
 refine ZBx ?_
 rcases on with _ | _
 ·refine ZBB ?_
  refine KL (fun q0 z0 => ?_) (fun q0 z0 => ?_)
  ·refine A_21 ?_
   exact aF (fun _ _ => bZ rfl rfl) ⟨rfl, y_e⟩
  refine ZBB ?_
  refine KL (fun q1 z1 => ?_) (fun q1 z1 => ?_)
  ·refine A_17 ?_
   exact aF (fun _ _ => bZ rfl rfl) ⟨rfl, y_e⟩
  refine ZAn ?_
  refine ZA1 ?_
  refine A_14 ?_
  exact aF (fun _ _ => bZ rfl rfl) ⟨rfl, y_e⟩
 refine ZBB ?_
 refine KL (fun q0 z0 => ?_) (fun q0 z0 => ?_)
 ·refine A_21 ?_
  exact aF (fun _ _ => bZ rfl rfl) ⟨rfl, y_e⟩
 refine ZBB ?_
 refine KL (fun q1 z1 => ?_) (fun q1 z1 => ?_)
 ·refine A_17 ?_
  exact aF (fun _ _ => bZ rfl rfl) ⟨rfl, y_e⟩
 refine ZAn ?_
 refine ZAY ?_
 refine ZDR ?_
 refine KC (fun q2 z2 => ?_) (fun q2 z2 => ?_)
 ·refine ZB2 ?_
  exact aF (fun _ _ => bZ rfl rfl) ⟨rfl, y_e⟩
 refine ZB6 ?_
 refine ZAU ?_
 refine ZBU ?_
 refine A_14 ?_
 refine KC (fun q3 z3 => ?_) (fun q3 z3 => ?_)
 ·refine ZB2 ?_
  exact ZBc
 refine ZBx ?_
 refine KC (fun q4 z4 => ?_) (fun q4 z4 => ?_)
 ·refine ZBR ?_
  rcases mode with _ | _
  ·refine ZB6 ?_
   refine fK false rfl rfl ?_
   refine ZB2 ?_
   exact ZBc
  refine ZB6 ?_
  refine fK true rfl rfl ?_
  refine ZB6 ?_
  refine ZBu ?_
  refine ZAb ?_
  refine ZDR ?_
  exact ZBc
 refine ZBx ?_
 refine KC (fun q5 z5 => ?_) (fun q5 z5 => ?_)
 ·refine ZAn ?_
  refine ZBU ?_
  refine ZDR ?_
  exact ZBc
 refine ZBx ?_
 refine KC (fun q6 z6 => ?_) (fun q6 z6 => ?_)
 ·refine ZDR ?_
  refine KC (fun q7 z7 => ?_) (fun q7 z7 => ?_)
  ·refine ZB2 ?_
   exact aF (fun _ _ => bZ rfl rfl) ⟨rfl, y_e⟩
  refine ZBx ?_
  refine ZBu ?_
  refine ZAb ?_
  refine ZDR ?_
  exact ZBc
 refine ZBx ?_
 refine KC (fun q7 z7 => ?_) (fun q7 z7 => ?_)
 ·refine ZB6 ?_
  refine ZBu ?_
  refine ZAb ?_
  refine ZDR ?_
  exact ZBc
 refine ZB2 ?_
 exact aF (fun _ _ => bZ rfl rfl) ⟨rfl, y_e⟩
def clockB_fn (m : Bk) (h : m.Ok) (w : AI) : aC prog 258 [.agg (cBk m).toArray] w [] (V_ (atT (clockB m))) := by
 obtain ⟨kind, banks, ram, on, mode, low, high, last⟩ := m
 obtain ⟨k1, k2, k3, k4, k5, k6⟩ := h
 dsimp only at k1 k2 k3 k4 k5 k6
 refine dR_ func258 ?_
 refine ZAn ?_
 refine ZAO fun b0 => ?_
 refine ZBx ?_
 rcases on with _ | _
 ·refine ZB6 ?_
  refine KL (fun q0 z0 => ?_) (fun q0 z0 => ?_)
  ·refine A_22 ?_
   exact aF (fun _ _ => bZ rfl rfl) ⟨rfl, y_t⟩
  refine ZAn ?_
  refine ZA1 ?_
  refine A_19 ?_
  exact aF (fun _ _ => bZ rfl rfl) ⟨rfl, y_t⟩
 refine ZB6 ?_
 refine KL (fun q0 z0 => ?_) (fun q0 z0 => ?_)
 ·refine A_22 ?_
  exact aF (fun _ _ => bZ rfl rfl) ⟨rfl, y_t⟩
 refine ZAn ?_
 refine ZAY ?_
 refine ZB2 ?_
 refine KL (fun q1 z1 => ?_) (fun q1 z1 => ?_)
 ·refine A_12 ?_
  exact aF (fun _ _ => bZ rfl rfl) ⟨rfl, y_t⟩
 refine ZBx ?_
 refine KC (fun q2 z2 => ?_) (fun q2 z2 => ?_)
 ·refine ZB2 ?_
  exact aF (fun _ _ => bZ rfl rfl) ⟨rfl, y_t⟩
 refine ZBx ?_
 refine ZBT ?_
 refine ZB6 ?_
 exact aF (fun _ _ => bZ rfl rfl) ⟨rfl, y_t⟩
def aOs (ti : ByteArray) (kind banks ram : Int) (cl ba wh : Bool) (w : AI) : aC prog 43 [.agg #[.string ti, .int .i64 kind, .bool cl, .bool ba, .int .i64 banks, .int .i64 ram, .bool wh]] w [] (V_ (.agg (cBk ⟨kind, banks, ram, decide (kind = 0), false, 1, 0, 255⟩).toArray)) := by
 refine dR_ func43 ?_
 refine ZAn ?_
 refine RX (dC (l := [.string ti, .int .i64 kind, .bool cl, .bool ba, .int .i64 banks, .int .i64 ram, .bool wh]) rfl rfl) rfl (ZDl fun b0 b1 => ?_)
 refine A_12 ?_
 refine RS ?_
 exact ZBk
def yB (p : Pd) (w : AI) : aC prog 91 [.agg (cPd p).toArray] w [] (V_ (.int .u8 (oY p))) := by
 obtain ⟨sel, down⟩ := p
 refine dR_ func91 ?_
 refine ZCx ?_
 refine ZBz fun b0 => ?_
 refine A_11 ?_
 refine RW (v := (.int .u8 (aG .u8 sel 16))) (bA rfl rfl) rfl rfl (ZAn ?_)
 refine KC (fun q0 z0 => ?_) (fun q0 z0 => ?_)
 ·refine ZB6 ?_
  refine RY (cM rfl rfl) rfl (ZDR ?_)
  refine RW (v := (.int .u8 (aG .u8 sel 32))) (bA rfl rfl) rfl rfl (ZAn ?_)
  refine KC (fun q1 z1 => ?_) (fun q1 z1 => ?_)
  ·refine ZB6 ?_
   refine RW (v := (.int .u8 (shr .u8 down 4))) (dK rfl rfl y_b) rfl rfl (RY (cM rfl rfl) rfl (ZBx ?_))
   refine ZED ?_
   exact E0 rfl ⟨rfl, (by unfold oY aCi; dsimp only; rw [if_pos z1, if_pos z0])⟩
  refine ZB6 ?_
  refine ZED ?_
  exact E0 rfl ⟨rfl, (by unfold oY aCi; dsimp only; rw [if_neg z1, if_pos z0])⟩
 refine ZB2 ?_
 refine RW (v := (.int .u8 (aG .u8 sel 32))) (bA rfl rfl) rfl rfl (ZAn ?_)
 refine KC (fun q1 z1 => ?_) (fun q1 z1 => ?_)
 ·refine ZB6 ?_
  refine RW (v := (.int .u8 (shr .u8 down 4))) (dK rfl rfl y_b) rfl rfl (RY (cM rfl rfl) rfl (ZBx ?_))
  refine ZED ?_
  exact E0 rfl ⟨rfl, (by unfold oY aCi; dsimp only; rw [if_pos z1, if_neg z0])⟩
 refine ZB6 ?_
 refine ZED ?_
 exact E0 rfl ⟨rfl, (by unfold oY aCi; dsimp only; rw [if_neg z1, if_neg z0])⟩
def aIE (p : Pd) (w : AI) : aC prog 181 [.agg (cPd p).toArray] w [] (V_ (.int .u8 (aBY p))) := by
 obtain ⟨sel, down⟩ := p
 refine dR_ func181 ?_
 refine ZCx ?_
 refine ZBz fun b0 => ?_
 refine ZBB ?_
 refine DR [4, 5, 6, 7] (pln [0, 2, 4, 6, 8, 11, 12, 14, 16, 18]) ?_
 refine ZAn ?_
 refine DW (v := (.int .u8 (aG .u8 sel 48))) rfl rfl rfl rfl (DW (v := _) rfl rfl rfl rfl (bU rfl rfl rfl rfl y_bD rfl rfl ?_))
 refine DZ rfl (aZ K_ rfl (wQ_ (yB ⟨sel, down⟩))) rfl y_c (DW (v := (.int .u8 (jZ .u8 255 (oY ⟨sel, down⟩)))) rfl rfl rfl rfl (DW (v := _) rfl rfl rfl rfl (DW (v := _) rfl rfl rfl rfl ?_)))
 exact ZAZ
def aAD (p q : Pd) (w : AI) : aC prog 55 [.agg (cPd p).toArray, .agg (cPd q).toArray] w [] (V_ (.tuple #[.agg (cPd q).toArray, .bool (mB p q)])) := by
 refine dR_ func55 ?_
 refine ZAn ?_
 refine RX (dC (l := cPd p) rfl rfl) rfl (ZBz fun b0 => ?_)
 refine RX (dC (l := cPd q) rfl rfl) rfl ?_
 rintro _ _ ⟨b1, rfl, rfl⟩
 refine ZDk ?_
 rintro _ _ ⟨b2, rfl, rfl⟩
 refine ZBB ?_
 refine DR [1, 2, 3, 4, 5, 6] (pln [0, 2, 6, 5, 9, 10, 12, 15, 16]) ?_
 refine bU rfl rfl rfl rfl y_bD rfl rfl ?_
 refine bU rfl rfl rfl rfl y_bD rfl rfl ?_
 refine bU rfl rfl rfl rfl y_bD rfl rfl ?_
 refine DZ rfl (aZ K_ rfl (wQ_ (yB q))) rfl y_c (DZ rfl (aZ K_ rfl (wQ_ (yB p))) rfl y_c (DW (v := _) rfl rfl rfl rfl (ZBR ?_)))
 refine DZ rfl s_t rfl n_h (ZBB ?_)
 exact aF (fun w hw => bC rfl rfl rfl (aA (b := b2) m_m w hw) rfl) ⟨rfl, rfl⟩
def aLS (p : Pd) (x : Int) (w : AI) : aC prog 182 [.agg (cPd p).toArray, .int .u8 x] w [] (V_ (.tuple #[.agg (cPd (kT x p)).toArray, .bool (mB p (kT x p))])) := by
 obtain ⟨sel, down⟩ := p
 refine dR_ func182 ?_
 refine ZCx ?_
 refine ZDl fun b0 b1 => ?_
 refine ZB6 ?_
 refine ZCw ?_
 refine ZBR ?_
 refine RW (v := (.int .u8 (aG .u8 x 48))) rfl rfl rfl (ZAn ?_)
 refine RS ?_
 refine RLv K_ (wQ_ (aAD ⟨sel, down⟩ (kT x ⟨sel, down⟩))) ?_
 refine ZAn ?_
 exact ZEI
def aHt (p : Pd) (x : Int) (w : AI) : aC prog 28 [.agg (cPd p).toArray, .int .u8 x] w [] (V_ (.tuple #[.agg (cPd (gQ x p)).toArray, .bool (mB p (gQ x p))])) := by
 obtain ⟨sel, down⟩ := p
 refine dR_ func28 ?_
 refine ZCx ?_
 refine ZDl fun b0 b1 => ?_
 refine ZB6 ?_
 refine ZCw ?_
 refine ZBB ?_
 refine RS ?_
 refine RLv K_ (wQ_ (aAD ⟨sel, down⟩ (gQ x ⟨sel, down⟩))) ?_
 refine ZAn ?_
 exact ZEI
def aJ2 (l : List Chg) (a : AC) (cp : Nat) (hll : l.length ≤ 1000000) (n : Int) (w : AI) (hE : Els w aA8 a l) : aC prog 29 [.slice a l.length cp, .int .u64 n] w [] (V_ (.int .u8 (eC l n))) := by
 refine dR_ func29 ?_
 refine A_12 ?_
 refine ZCJ ?_
 refine qA (σ := Nat × AH) [5, 6, 7, 10, 11, 12, 13, 14, 15, 16, 17, 18, 19, 20, 21, 22, 23, 24, 25, 26, 27, 28, 29, 30, 31, 32, 33, 34, 35, 36, 37, 38] (fun q => [(5, q.2), (10, .int .i64 q.1)]) (fun q => q.1 ≤ l.length ∧ ((xJ n (l.take q.1) = none ∧ q.2 = .pointer none) ∨ ∃ c0, xJ n (l.take q.1) = some c0 ∧ ∃ b0 o0, q.2 = .pointer (some ⟨b0, o0, none⟩) ∧ w.cell? ⟨b0, o0, none⟩ = some (.int .u64 c0.at_) ∧ w.cell? ⟨b0, o0 + 1, none⟩ = some (.int .u8 c0.down))) (fun q => l.length - q.1) (0, .pointer none) ?_ ?_ ?_
 ·exact ⟨aj _, .inl ⟨rfl, rfl⟩⟩
 ·exact .cons rfl (.cons rfl .nil)
 rintro ⟨i, pv⟩ y3 ⟨hi, hb9⟩
 dsimp only at hi hb9 ⊢
 refine ZBx ?_
 refine KC (fun q0 z0 => ?_) (fun q0 z0 => ?_)
 ·refine ZB6 ?_
  obtain ⟨bx, ox, rfl, hrx⟩ := hE.row (i := i) o_m
  obtain ⟨c, hcx0⟩ : ∃ c, l[i]? = some c := ⟨_, am o_m⟩
  refine A_8 ?_
  refine RY (bE (s := 2) i rfl rfl rfl rfl o_m) rfl (ZBB ?_)
  rcases hb9 with ⟨hb, rfl⟩ | ⟨c0, hb, b0, o0, rfl, hc0, hc1⟩
  ·refine DR [4, 14, 15, 16, 17] (pln [0, 2, 4, 6, 8, 10, 12, 14, 16, 18, 20, 22, 24, 26, 28, 30, 32, 34, 36, 38, 40]) ?_
   refine ZBB ?_
   refine DL rfl rfl rfl (fun w hw => y_d2) rfl (ZAn ?_)
   refine KE (fun q1 z1 => ?_) (fun q1 z1 => ?_)
   ·refine ZBR ?_
    refine uY true rfl rfl rfl rfl rfl ?_
    refine A_19 ?_
    refine ZAD ?_
    exact ⟨(i + 1, _), ⟨y_B, .inr ⟨c, by rw [best_step hcx0, hb]; exact aB6 o_m rfl, _, _, rfl, y_dk, y_dj⟩⟩, y_bF, .cons rfl (.cons rfl .nil), a_g, fun _ h => h⟩
   refine A_18 ?_
   refine ZAD ?_
   exact ⟨(i + 1, _), ⟨y_B, .inl ⟨y_dq, rfl⟩⟩, y_bF, .cons rfl (.cons rfl .nil), a_g, fun _ h => h⟩
  refine DR [4, 14, 15, 16, 17] (pln [0, 2, 4, 6, 8, 10, 12, 14, 16, 18, 20, 22, 24, 26, 28, 30, 32, 34, 36, 38, 40]) ?_
  refine ZBB ?_
  refine DL rfl rfl rfl (fun w hw => y_d2) rfl (ZAn ?_)
  refine KE (fun q1 z1 => ?_) (fun q1 z1 => ?_)
  ·refine ZBR ?_
   refine uY false rfl rfl rfl rfl rfl ?_
   refine ZB6 ?_
   refine DL rfl rfl rfl (fun w hw => y_d2) rfl (ZBB ?_)
   refine DL rfl rfl rfl (fG hc0 y_v) rfl (ZB6 ?_)
   refine KC (fun q2 z2 => ?_) (fun q2 z2 => ?_)
   ·refine ZBx ?_
    refine ZAD ?_
    exact ⟨(i + 1, _), ⟨y_B, .inr ⟨c, by rw [best_step hcx0, hb]; exact aB6 o_m (ah o_m), _, _, rfl, y_dk, y_dj⟩⟩, y_bF, .cons rfl (.cons rfl .nil), a_g, fun _ h => h⟩
   refine ZAn ?_
   refine ZAD ?_
   exact ⟨(i + 1, _), ⟨y_B, .inr ⟨c0, by rw [best_step hcx0, hb]; exact better_no (.inr (cr o_m)), b0, o0, rfl, hc0, hc1⟩⟩, y_bF, .cons rfl (.cons rfl .nil), a_g, fun _ h => h⟩
  refine A_18 ?_
  refine ZAD ?_
  exact ⟨(i + 1, _), ⟨y_B, .inr ⟨c0, y_dq, b0, o0, rfl, hc0, hc1⟩⟩, y_bF, .cons rfl (.cons rfl .nil), a_g, fun _ h => h⟩
 refine ZBB ?_
 obtain rfl : i = l.length := by omega
 rw [di] at hb9
 rcases hb9 with ⟨hb, rfl⟩ | ⟨c0, hb, b0, o0, rfl, hc0, hc1⟩
 ·refine ZAn ?_
  refine ZA1 ?_
  refine ZDR ?_
  exact E0 rfl ⟨rfl, (by unfold eC; rw [hb])⟩
 refine ZAn ?_
 refine ZAY ?_
 refine A_8 ?_
 refine RZ (aH rfl rfl (bF hc1 y_v)) rfl (ZBB ?_)
 exact E0 rfl ⟨rfl, (by unfold eC; rw [hb])⟩
def aMO (b : Nat) (s m h day sub : Int) (halt carry : Bool) (d0 d1 d2 d3 d4 : Int) (k : 0 ≤ s ∧ s < 256) (w : AI) (hst : St w [b] [(b, blk [.int .u8 s, .int .u8 m, .int .u8 h, .int .i64 day, .int .i64 sub, .bool halt, .bool carry, .int .u8 d0, .int .u8 d1, .int .u8 d2, .int .u8 d3, .int .u8 d4] 109)] w) : aC prog 268 [P_ b, .int .u8 63, .int .u8 60] w [b] (fun v H => v = .bool (decide ((s + 1) % 64 = 60)) ∧ H = [(b, blk [.int .u8 (if (s + 1) % 64 = 60 then 0 else (s + 1) % 64), .int .u8 m, .int .u8 h, .int .i64 day, .int .i64 sub, .bool halt, .bool carry, .int .u8 d0, .int .u8 d1, .int .u8 d2, .int .u8 d3, .int .u8 d4] 109)]) := by
 refine dO_ func268 hst ?_
 refine A_10 ?_
 refine ZBt ?_
 refine ZBR ?_
 refine RW (v := (.int .u8 ((s + 1) % 64))) (bA rfl rfl) rfl (cA_ U_ (aW (p := fun x => aG .u8 ((x + 1) % 256) 63 = (x + 1) % 64) y_F k.1 k.2)) ?_
 refine ZAy ?_
 refine A_10 ?_
 refine KC (fun q0 z0 => ?_) (fun q0 z0 => ?_)
 ·refine ZBx ?_
  exact EV rfl sR_ ⟨cA_ Value.bool (cr z0).symm, by rw [if_neg z0]; rfl⟩
 refine ZBx ?_
 refine ZEH ?_
 exact ZCu
def aLC (b : Nat) (s m h day sub : Int) (halt carry : Bool) (d0 d1 d2 d3 d4 : Int) (k : 0 ≤ m ∧ m < 256) (w : AI) (hst : St w [b] [(b, blk [.int .u8 s, .int .u8 m, .int .u8 h, .int .i64 day, .int .i64 sub, .bool halt, .bool carry, .int .u8 d0, .int .u8 d1, .int .u8 d2, .int .u8 d3, .int .u8 d4] 109)] w) : aC prog 268 [.pointer (some ⟨b, 1, none⟩), .int .u8 63, .int .u8 60] w [b] (fun v H => v = .bool (decide ((m + 1) % 64 = 60)) ∧ H = [(b, blk [.int .u8 s, .int .u8 (if (m + 1) % 64 = 60 then 0 else (m + 1) % 64), .int .u8 h, .int .i64 day, .int .i64 sub, .bool halt, .bool carry, .int .u8 d0, .int .u8 d1, .int .u8 d2, .int .u8 d3, .int .u8 d4] 109)]) := by
 refine dO_ func268 hst ?_
 refine A_10 ?_
 refine ZBt ?_
 refine ZBR ?_
 refine RW (v := (.int .u8 ((m + 1) % 64))) (bA rfl rfl) rfl (cA_ U_ (aW (p := fun x => aG .u8 ((x + 1) % 256) 63 = (x + 1) % 64) y_F k.1 k.2)) ?_
 refine ZAy ?_
 refine A_10 ?_
 refine KC (fun q0 z0 => ?_) (fun q0 z0 => ?_)
 ·refine ZBx ?_
  exact EV rfl sR_ ⟨cA_ Value.bool (cr z0).symm, by rw [if_neg z0]; rfl⟩
 refine ZBx ?_
 refine ZEH ?_
 exact ZCu
def aLb (b : Nat) (s m h day sub : Int) (halt carry : Bool) (d0 d1 d2 d3 d4 : Int) (k : 0 ≤ h ∧ h < 256) (w : AI) (hst : St w [b] [(b, blk [.int .u8 s, .int .u8 m, .int .u8 h, .int .i64 day, .int .i64 sub, .bool halt, .bool carry, .int .u8 d0, .int .u8 d1, .int .u8 d2, .int .u8 d3, .int .u8 d4] 109)] w) : aC prog 268 [.pointer (some ⟨b, 2, none⟩), .int .u8 31, .int .u8 24] w [b] (fun v H => v = .bool (decide ((h + 1) % 32 = 24)) ∧ H = [(b, blk [.int .u8 s, .int .u8 m, .int .u8 (if (h + 1) % 32 = 24 then 0 else (h + 1) % 32), .int .i64 day, .int .i64 sub, .bool halt, .bool carry, .int .u8 d0, .int .u8 d1, .int .u8 d2, .int .u8 d3, .int .u8 d4] 109)]) := by
 refine dO_ func268 hst ?_
 refine A_10 ?_
 refine ZBt ?_
 refine ZBR ?_
 refine RW (v := (.int .u8 ((h + 1) % 32))) (bA rfl rfl) rfl (cA_ U_ (aW (p := fun x => aG .u8 ((x + 1) % 256) 31 = (x + 1) % 32) y_F k.1 k.2)) ?_
 refine ZAy ?_
 refine A_10 ?_
 refine KC (fun q0 z0 => ?_) (fun q0 z0 => ?_)
 ·refine ZBx ?_
  exact EV rfl sR_ ⟨cA_ Value.bool (cr z0).symm, by rw [if_neg z0]; rfl⟩
 refine ZBx ?_
 refine ZEH ?_
 exact ZCu
def aJI (b : Nat) (c : Ck) (hc : c.Fo) (w : AI) (hst : St w [b] [(b, blk (cCk c) 109)] w) : aC prog 254 [P_ b] w [b] (fun v H => v = .tuple #[] ∧ H = [(b, blk (cCk (secCk c)) 109)]) := by
 obtain ⟨s, m, h, day, sub, halt, carry, d0, d1, d2, d3, d4⟩ := c
 obtain ⟨k1, k2, k3, k4, k5⟩ := hc
 dsimp only at k1 k2 k3 k4
 refine dO_ func254 hst ?_
 refine ZB2 ?_
 refine RZ (dB K_ rfl (wV_ (aMO b s m h day sub halt carry d0 d1 d2 d3 d4 k1))) rfl (ZBR ?_)
 refine KL (fun q0 z0 => ?_) (fun q0 z0 => ?_)
 ·refine A_16 ?_
  have e1 : ¬ (s + 1) % 64 = 60 := by simpa using q0
  exact EN sR_ ⟨rfl, by unfold secCk dayCk; simp only [e1, ne_eq, not_true_eq_false, not_false_eq_true, if_true, if_false]; rfl⟩
 refine ZBB ?_
 refine RZ (dB K_ rfl (wV_ (aLC b (if (s + 1) % 64 = 60 then 0 else (s + 1) % 64) m h day sub halt carry d0 d1 d2 d3 d4 k2))) rfl (ZAn ?_)
 refine KL (fun q1 z1 => ?_) (fun q1 z1 => ?_)
 ·refine A_9 ?_
  have e1 : (s + 1) % 64 = 60 := by simpa using q0
  have e2 : ¬ (m + 1) % 64 = 60 := by simpa using q1
  exact EN sR_ ⟨rfl, by unfold secCk dayCk; simp only [e1, e2, ne_eq, not_true_eq_false, not_false_eq_true, if_true, if_false]; rfl⟩
 refine ZBB ?_
 refine RZ (dB K_ rfl (wV_ (aLb b (if (s + 1) % 64 = 60 then 0 else (s + 1) % 64) (if (m + 1) % 64 = 60 then 0 else (m + 1) % 64) h day sub halt carry d0 d1 d2 d3 d4 k3))) rfl (ZBB ?_)
 refine KC (fun q2 z2 => ?_) (fun q2 z2 => ?_)
 ·refine ZBR ?_
  have e1 : (s + 1) % 64 = 60 := by simpa using q0
  have e2 : (m + 1) % 64 = 60 := by simpa using q1
  have e3 : ¬ (h + 1) % 32 = 24 := by simpa using q2
  exact EN sR_ ⟨rfl, by unfold secCk dayCk; simp only [e1, e2, e3, ne_eq, not_true_eq_false, not_false_eq_true, if_true, if_false]; rfl⟩
 refine ZDR ?_
 refine ZAb ?_
 refine ZAn ?_
 refine ZEH ?_
 refine A_9 ?_
 refine KC (fun q3 z3 => ?_) (fun q3 z3 => ?_)
 ·refine ZBx ?_
  refine ZAI ?_
  refine ZEH ?_
  refine ZBR ?_
  have e1 : (s + 1) % 64 = 60 := by simpa using q0
  have e2 : (m + 1) % 64 = 60 := by simpa using q1
  have e3 : (h + 1) % 32 = 24 := by simpa using q2
  have e4 := z3
  exact EN sR_ ⟨rfl, y_cj⟩
 refine ZBR ?_
 have e1 : (s + 1) % 64 = 60 := by simpa using q0
 have e2 : (m + 1) % 64 = 60 := by simpa using q1
 have e3 : (h + 1) % 32 = 24 := by simpa using q2
 have e4 := z3
 exact EN sR_ ⟨rfl, y_cj⟩
def tickCk_fn (c : Ck) (hc : c.Ok) (w : AI) : aC prog 239 [.agg (cCk c).toArray, .int .i64 1] w [] (V_ (.agg (cCk (tickCk c)).toArray)) := by
 obtain ⟨s, m, h, day, sub, halt, carry, d0, d1, d2, d3, d4⟩ := c
 obtain ⟨⟨k1, k2, k3, k4, k5⟩, k6⟩ := hc
 dsimp only at k1 k2 k3 k4 k6
 have hf9 : (⟨s, m, h, day, sub + 1, halt, carry, d0, d1, d2, d3, d4⟩ : Ck).Fo := ⟨k1, k2, k3, k4, k5⟩
 have hsub9 : ∀ k : Nat, (jD (⟨s, m, h, day, sub + 1, halt, carry, d0, d1, d2, d3, d4⟩ : Ck) k).sub = sub + 1 - 1048576 * k := fun k => wZ _ k
 refine dR_ func239 ?_
 refine ZAl ?_
 refine ZDl fun b0 b1 => ?_
 refine ZB2 ?_
 refine KL (fun q0 z0 => ?_) (fun q0 z0 => ?_)
 ·refine ZDR ?_
  refine RZ (aL rfl rfl rfl y_S) rfl (ZAI ?_)
  obtain rfl := q0
  exact aF (fun w hw => aU rfl rfl rfl (aA (b := b1) m_m w hw)) ⟨rfl, by unfold tickCk; rw [if_pos rfl]; rfl⟩
 refine ZAn ?_
 refine ZAY ?_
 refine A_8 ?_
 refine RY (kL rfl rfl) rfl (ZAb ?_)
 refine ZAz ?_
 refine bG (σ := Nat) [18, 19, 20, 21, 22, 23, 24, 25] (fun _ => []) (fun k => [(b1, blk [.int .u8 0, .int .u8 0, .int .u8 0, .int .i64 0, .int .i64 0, .bool false, .bool false, .int .u8 0, .int .u8 0, .int .u8 0, .int .u8 0, .int .u8 0] 109), (b0, blk (cCk (jD (⟨s, m, h, day, sub + 1, halt, carry, d0, d1, d2, d3, d4⟩ : Ck) k)) 109)]) (fun k => 1048576 * (k : Int) ≤ sub + 1) (fun k => ((sub + 1) / 1048576).toNat - k) 0 ?_ ?_ ?_ ?_
 ·show (1048576 : Int) * (0 : Nat) ≤ sub + 1; omega
 ·exact .nil
 ·exact fun _ h => h
 rintro k y4 hk
 dsimp only at hk ⊢
 have hs9 := hsub9 k
 refine ZB6 ?_
 refine RZ (aH rfl rfl (aT (v := .int .i64 (jD (⟨s, m, h, day, sub + 1, halt, carry, d0, d1, d2, d3, d4⟩ : Ck) k).sub) m_m rfl)) rfl (ZAn ?_)
 refine KC (fun q1 z1 => ?_) (fun q1 z1 => ?_)
 ·refine ZB2 ?_
  refine ZBT ?_
  refine ZBR ?_
  refine ZAI ?_
  refine RX (aS (F := [(b1, _)]) (A := [(b0, _)]) K_ rfl (wL_ (aJI b0 { jD (⟨s, m, h, day, sub + 1, halt, carry, d0, d1, d2, d3, d4⟩ : Ck) k with sub := (jD (⟨s, m, h, day, sub + 1, halt, carry, d0, d1, d2, d3, d4⟩ : Ck) k).sub - 1048576 } ((hf9.secs k).sub_ _)))) rfl (ZC6 ?_)
  refine ZBR ?_
  exact ⟨k + 1, y_B, y_B, .nil, a_g, fun _ h => h.as (by rw [aF1]; rfl)⟩
 refine ZBB ?_
 refine RZ (aL rfl rfl rfl y_S) rfl (ZAI ?_)
 obtain rfl := q0
 exact aF (fun w hw => aU rfl rfl rfl (aA (b := b1) m_m w hw)) ⟨rfl, by unfold tickCk; rw [if_neg Bool.false_ne_true]; dsimp only; rw [show ((sub + 1) / 1048576).toNat = k by omega]; rfl⟩
def aEm (n : Int) (x : Bool) (hn : n = 6 ∨ n = 7) (w : AI) : aC prog 269 [.int .i64 n, .bool x] w [] (V_ (.int .u8 (gZ x (if n = 6 then 64 else 128)))) := by
 refine dR_ func269 ?_
 refine A_9 ?_
 refine KC (fun q0 z0 => ?_) (fun q0 z0 => ?_)
 ·refine ZBR ?_
  rcases hn with rfl | rfl
  ·refine ZAn ?_
   refine RY (dJ rfl rfl o_m) rfl (ZBB ?_)
   exact E0 rfl ⟨rfl, (by unfold gZ; rw [if_pos q0]; rfl)⟩
  refine ZAn ?_
  refine RY (dJ rfl rfl o_m) rfl (ZBB ?_)
  exact E0 rfl ⟨rfl, (by unfold gZ; rw [if_pos q0]; rfl)⟩
 refine ZB2 ?_
 exact E0 rfl ⟨rfl, (by unfold gZ; rw [if_neg (by rw [q0]; decide)])⟩
def aIJ (c : Ck) (hc : c.Ok) (w : AI) : aC prog 255 [.agg (cCk c).toArray] w [] (V_ (.agg (cCk (sR c)).toArray)) := by
 obtain ⟨s, m, h, day, sub, halt, carry, d0, d1, d2, d3, d4⟩ := c
 obtain ⟨⟨k1, k2, k3, k4, k5⟩, k6⟩ := hc
 dsimp only at k1 k2 k3 k4 k6
 refine dR_ func255 ?_
 refine ZAl ?_
 refine ZDl fun b0 b1 => ?_
 refine ZAn ?_
 refine DR [2, 3, 4, 5, 6, 7, 8, 9, 10, 11, 12, 13, 14, 15, 16, 17, 18, 19, 20, 21] (pln [0, 2, 4, 6, 8, 10, 12, 14, 16, 18, 20, 22, 24, 26, 28, 30, 36, 38, 33, 34, 41, 42, 44, 46, 49]) ?_
 refine A_8 ?_
 refine ZBN ?_
 refine ZAn ?_
 refine ZC4 ?_
 refine DW rfl (bA rfl rfl) rfl y_dM (ZB6 ?_)
 refine DZ rfl (aZ K_ rfl (wQ_ (aEm 6 halt y_b))) rfl y_c (DY rfl (cM rfl rfl) rfl (DZ rfl (aZ K_ rfl (wQ_ (aEm 7 carry y_b))) rfl y_c (DW (v := (.int .u8 (day / 256 % 2 + gZ halt 64 + gZ carry 128))) rfl (cM rfl rfl) rfl (cA_ U_ ((cA_ (fun z => bor .u8 (bor .u8 z (gZ halt 64)) (gZ carry 128)) (show day / 256 % 256 % 2 = day / 256 % 2 by omega)).trans (aMN o_m halt carry))) ?_)))
 refine DY rfl (jW (l := [.int .u8 s, .int .u8 m, .int .u8 h, .int .u8 (day % 256), .int .u8 (day / 256 % 2 + gZ halt 64 + gZ carry 128)]) (z := [.int .u8 0, .int .u8 0, .int .u8 0, .int .u8 0, .int .u8 0]) (ps := [(0, .int .u8 s), (1, .int .u8 m), (2, .int .u8 h), (3, .int .u8 (day % 256)), (4, .int .u8 (day / 256 % 2 + gZ halt 64 + gZ carry 128))]) rfl rfl rfl rfl) rfl (ZBR ?_)
 refine DZ rfl s_t rfl n_h (ZBB ?_)
 exact RZ (aL rfl rfl rfl y_S) rfl ZBk
def aJZ (c : Ck) (hc : c.Ok) (n : Int) (w : AI) : aC prog 189 [.agg (cCk c).toArray, .int .i64 n] w [] (V_ (.int .u8 (tB n c))) := by
 obtain ⟨s, m, h, day, sub, halt, carry, d0, d1, d2, d3, d4⟩ := c
 obtain ⟨⟨k1, k2, k3, k4, k5⟩, k6⟩ := hc
 dsimp only at k1 k2 k3 k4 k6
 refine dR_ func189 ?_
 refine ZAl ?_
 refine ZBz fun b0 => ?_
 refine ZDR ?_
 refine KL (fun q0 z0 => ?_) (fun q0 z0 => ?_)
 ·refine A_10 ?_
  exact E0 rfl ⟨rfl, (by unfold tB; rw [if_pos o_m])⟩
 refine ZB6 ?_
 refine KC (fun q1 z1 => ?_) (fun q1 z1 => ?_)
 ·refine ZBx ?_
  exact E0 rfl ⟨rfl, (by unfold tB; rw [if_pos o_m])⟩
 refine ZAn ?_
 rcases (show n = 0 ∨ n = 1 ∨ n = 2 ∨ n = 3 ∨ n = 4 by omega) with rfl | rfl | rfl | rfl | rfl
 ·refine ZBB ?_
  exact RY (aM 0 rfl rfl rfl rfl y_b) rfl ZAw
 ·refine ZBB ?_
  exact RY (aM 1 rfl rfl rfl rfl y_b) rfl ZAw
 ·refine ZBB ?_
  exact RY (aM 2 rfl rfl rfl rfl y_b) rfl ZAw
 ·refine ZBB ?_
  exact RY (aM 3 rfl rfl rfl rfl y_b) rfl ZAw
 refine ZBB ?_
 exact RY (aM 4 rfl rfl rfl rfl y_b) rfl ZAw
def aIa (c : Ck) (hc : c.Ok) (n x : Int) (hx : 0 ≤ x ∧ x < 256) (w : AI) : aC prog 190 [.agg (cCk c).toArray, .int .i64 n, .int .u8 x] w [] (V_ (.agg (cCk (writeCk n x c)).toArray)) := by
 obtain ⟨s, m, h, day, sub, halt, carry, d0, d1, d2, d3, d4⟩ := c
 obtain ⟨⟨k1, k2, k3, k4, k5⟩, k6⟩ := hc
 dsimp only at k1 k2 k3 k4 k6
 refine dR_ func190 ?_
 refine ZAl ?_
 refine ZDl fun b0 b1 => ?_
 refine A_12 ?_
 refine KC (fun q0 z0 => ?_) (fun q0 z0 => ?_)
 ·refine ZAn ?_
  refine RW (bA rfl rfl) rfl y_d8 (ZAy ?_)
  refine ZAz ?_
  exact ZCP
 refine ZBx ?_
 refine KC (fun q1 z1 => ?_) (fun q1 z1 => ?_)
 ·refine ZAn ?_
  refine RW (bA rfl rfl) rfl y_d8 (ZAz ?_)
  exact ZCP
 refine ZBx ?_
 refine KC (fun q2 z2 => ?_) (fun q2 z2 => ?_)
 ·refine ZAn ?_
  refine RW (bA rfl rfl) rfl y_d9 (ZAz ?_)
  exact ZCP
 refine ZBx ?_
 refine KC (fun q3 z3 => ?_) (fun q3 z3 => ?_)
 ·refine ZBB ?_
  refine RW (v := (.int .i64 (day / 256 * 256))) (sJ rfl rfl) rfl (cA_ (Value.int .i64) (aFw (n := day) o_m o_m)) (ZD7 ?_)
  refine RW (v := (.int .i64 (day / 256 * 256 + x))) (cM rfl rfl) rfl (cA_ (Value.int .i64) (aA1 (A := day / 256 * 256) o_m o_m o_m hx)) (ZAz ?_)
  exact ZCP
 refine ZBx ?_
 refine KC (fun q4 z4 => ?_) (fun q4 z4 => ?_)
 ·refine ZB6 ?_
  refine RW (v := (.int .i64 (day % 256))) (bA rfl rfl) rfl (cA_ (Value.int .i64) (aFN day)) (ZBR ?_)
  refine RW (bA rfl rfl) rfl y_dM (ZAU ?_)
  refine RW (dJ rfl rfl y_b) rfl y_dS (RW (v := (.int .i64 (day % 256 + x % 2 * 256))) (cM rfl rfl) rfl (cA_ (Value.int .i64) (tZ (A := x % 2 * 256) o_m o_m o_m o_m)) (ZAz ?_))
  refine RW (bA rfl rfl) rfl y_dW (RW (v := (.bool (decide (x / 64 % 2 = 1)))) rfl rfl (cA_ Value.bool y_bT) (ZBR ?_))
  refine ZDy ?_
  refine RW (v := (.bool (decide (x / 128 = 1)))) rfl rfl (cA_ Value.bool y_bT) (ZAy ?_)
  refine ZAz ?_
  exact ZCP
 refine ZBB ?_
 exact ZCP
def uH (b : Nat) (B : Bd) (hB : B.Ln) (w : AI) (hr : Row w b 0 (cBd B)) : aC prog 210 [P_ b] w [] (V_ (.int .i64 (everyB B))) := by
 have q0 := hB.r_ 0
 refine dR_ func210 ?_
 refine A_9 ?_
 refine ZDC ?_
 refine RW (dK rfl rfl y_b) rfl (iK 16 y_b y_b) (RW (bA rfl rfl) rfl y_dF (ZAU ?_))
 exact ZAZ
def vS (b : Nat) (B : Bd) (hB : B.Ln) (w : AI) (hr : Row w b 0 (cBd B)) : aC prog 211 [P_ b] w [] (V_ (.int .i64 (byB B))) := by
 have q0 := hB.r_ 0
 refine dR_ func211 ?_
 refine A_9 ?_
 refine ZDC ?_
 refine RW (bA rfl rfl) rfl y_dF (ZAU ?_)
 exact ZAZ
def readyB_fn (b : Nat) (B : Bd) (hB : B.Ln) (w : AI) (hr : Row w b 0 (cBd B)) (n : Nat) (hn : n < 4) : aC prog 208 [P_ b, .int .i64 n] w [] (V_ (.bool (readyB n B))) := by
 have q0 := hB.r_ (5 * n)
 have q1 := hB.r_ (5 * n + 2)
 refine dR_ func208 ?_
 refine A_10 ?_
 refine KC (fun q0 z0 => ?_) (fun q0 z0 => ?_)
 ·refine ZB6 ?_
  refine ZBu ?_
  refine ZAn ?_
  refine RY (aM (5 * n) rfl rfl rfl o_m o_m) rfl (RZ (aH rfl rfl (bF (hr _ _ (cBd_r hB (j := 5 * n) o_m)) y_v)) rfl (ZDy ?_))
  refine ZB6 ?_
  obtain rfl : n = 2 := by omega
  have q2 : B.r (5 * 2) = B.r 10 := rfl
  exact E0 rfl ⟨rfl, (cA_ Value.bool (by unfold readyB; rw [if_pos o_m, Bool.eq_iff_iff]; simp only [bne_iff_ne, decide_eq_true_eq, ne_eq]; omega))⟩
 refine ZBx ?_
 refine ZBu ?_
 refine ZAb ?_
 refine ZAn ?_
 refine RY (aM (5 * n + 2) rfl rfl rfl o_m o_m) rfl (RZ (aH rfl rfl (bF (hr _ _ (cBd_r hB (j := 5 * n + 2) o_m)) y_v)) rfl (RW (v := (.int .u8 (B.r (5 * n + 2) / 8 * 8))) (bA rfl rfl) rfl (cA_ U_ (aP0 q1)) ?_))
 refine ZB6 ?_
 exact E0 rfl ⟨rfl, (cA_ Value.bool (by unfold readyB; rw [if_neg o_m, Bool.eq_iff_iff]; simp only [bne_iff_ne, decide_eq_true_eq, ne_eq]; omega))⟩
def aEO (b : Nat) (B : Bd) (hB : B.Wf) (w : AI) (hr : Row w b 0 (cBd B)) : aC prog 213 [P_ b] w [] (V_ (.int .i64 (fL B))) := by
 have q0 := hB.r_ 0
 have q1 := hB.pitch
 have q2 := aIx B
 have q3 := aBG q1.1 (byB B).toNat
 refine dR_ func213 ?_
 refine ZBx ?_
 refine DR [4, 5] (pln [0, 2, 4, 6, 8, 11, 12, 14]) ?_
 refine ZBB ?_
 refine DL rfl rfl rfl (fG (hr _ _ (rE hB)) y_v) rfl (ZBR ?_)
 refine DZ rfl (aZ K_ rfl (fun w hw => vS b B hB w (aR hr y_v w hw))) rfl y_c (DW (v := (.int .i64 (B.pitch / 2 ^ (byB B).toNat))) rfl (dK rfl rfl q2.1) rfl (cA_ (Value.int .i64) (aRF q2 q1.1)) (A_8 ?_))
 refine ZDC ?_
 refine RW (bA rfl rfl) rfl y_eb (ZAn ?_)
 refine KC (fun q1 z1 => ?_) (fun q1 z1 => ?_)
 ·refine ZAn ?_
  refine RW (v := (.int .i64 (0 - (B.pitch / 2 ^ (byB B).toNat)))) rfl rfl (cA_ (Value.int .i64) (aI (n := 0 - (B.pitch / 2 ^ (byB B).toNat)) o_m o_m)) (ZDR ?_)
  refine RZ (aH rfl rfl (bF (hr _ _ (rE hB)) y_v)) rfl (ZBR ?_)
  refine ZAb ?_
  refine ZBB ?_
  exact E0 rfl ⟨rfl, (cA_ (Value.int .i64) (by unfold fL; rw [if_pos o_m]; first | done | omega))⟩
 refine ZB2 ?_
 refine RZ (aH rfl rfl (bF (hr _ _ (rE hB)) y_v)) rfl (ZBR ?_)
 refine ZAb ?_
 refine ZBB ?_
 exact E0 rfl ⟨rfl, (cA_ (Value.int .i64) (by unfold fL; rw [if_neg o_m]; first | done | omega))⟩
def pH (n : Nat) (w : AI) : aC prog 206 [.int .i64 n] w [] (V_ (.int .i64 (longest n))) := by
 refine dR_ func206 ?_
 refine A_10 ?_
 refine KC (fun q0 z0 => ?_) (fun q0 z0 => ?_)
 ·refine ZBx ?_
  exact E0 rfl ⟨rfl, (by unfold longest; rw [if_pos o_m])⟩
 refine ZB2 ?_
 exact E0 rfl ⟨rfl, (by unfold longest; rw [if_neg o_m])⟩
def aAH (b : Nat) (B : Bd) (hB : B.Ln) (w : AI) (hst : St w [b] [(b, blk (cBd B) 121)] w) : aC prog 209 [P_ b] w [b] (fun v H => v = .tuple #[] ∧ H = [(b, blk (cBd (bN B)) 121)]) := by
 have q0 := pP B
 have hW : ({ B with slide := everyB B } : Bd).Ln := hB.slide_ _
 refine dO_ func209 hst ?_
 refine ZB6 ?_
 refine RLv K_ (fun w hw => uH b B hB w (aA m_m w hw)) ?_
 refine ZAn ?_
 refine RZ (aD (l' := cBd ({ B with slide := everyB B })) 0 rfl rfl rfl rfl rfl rfl y_T (uK hB _)) rfl (ZD5 ?_)
 refine RZ (aH rfl rfl (aT m_m (by exact yJ hW))) rfl (ZAn ?_)
 refine KC (fun q1 z1 => ?_) (fun q1 z1 => ?_)
 ·refine ZB6 ?_
  refine RZ (aD (l' := cBd ({ B with slide := 8 })) 0 rfl rfl rfl rfl rfl rfl (by rw [cBd_len hW]; simp only [Lc_, ar]; omega) (uK hW _)) rfl (ZAC ?_)
  refine ZBR ?_
  exact EN sR_ ⟨rfl, by unfold bN; rw [if_pos z1]⟩
 refine ZBR ?_
 exact EN sR_ ⟨rfl, by unfold bN; rw [if_neg z1]⟩
def tJ (b : Nat) (B : Bd) (hB : B.Wf) (w : AI) (hst : St w [b] [(b, blk (cBd B) 121)] w) : aC prog 212 [P_ b] w [b] (fun v H => v = .bool (nA B) ∧ H = [(b, blk (cBd (kG B)) 121)]) := by
 refine dO_ func212 hst ?_
 refine ZDR ?_
 refine RLv K_ (fun w hw => aEO b B hB w (aA m_m w hw)) ?_
 refine A_8 ?_
 refine KC (fun q0 z0 => ?_) (fun q0 z0 => ?_)
 ·refine ZB6 ?_
  refine RY y_dC rfl (ZBR ?_)
  refine RZ (aD (l' := cBd (aId B)) 0 rfl rfl rfl rfl rfl rfl y_T (putBd_v hB (n := 0) (k := 0) y_b y_b rfl)) rfl (ZAC ?_)
  refine ZDR ?_
  have q1 : nA B = true := q0
  exact EV rfl sR_ ⟨by rw [q1]; exact cA_ Value.bool q0, by unfold kG; rw [q1]; rfl⟩
 refine ZDR ?_
 have q1 : nA B = false := q0
 exact EV rfl sR_ ⟨by rw [q1]; exact cA_ Value.bool q0, by unfold kG; rw [q1]; rfl⟩
set_option maxHeartbeats 2000000 in
def aF9 (b : Nat) (B : Bd) (hB : B.Wf) (w : AI) (hst : St w [b] [(b, blk (cBd B) 121)] w) : aC prog 248 [P_ b] w [b] (fun v H => v = .tuple #[] ∧ H = [(b, blk (cBd (wA B)) 121)]) := by
 refine dO_ func248 hst ?_
 refine ZBx ?_
 refine bG (σ := Nat) [2, 3, 4, 5, 6, 7, 8, 9, 10, 11, 12, 13, 14, 15, 16, 17, 18, 19, 20, 21, 22, 23, 24, 25, 26, 27, 28, 29, 30, 31, 32, 33, 34, 35, 36, 37, 38, 39, 40, 41, 42, 43, 44, 45, 46, 47, 48, 49, 50] (fun n => [(4, .int .i64 n)]) (fun n => [(b, blk (cBd (turnV lenV B n)) 121)]) (fun n => n ≤ 4) (fun n => 4 - n) 0 ?_ ?_ ?_ ?_
 ·exact aj _
 ·exact .cons rfl .nil
 ·exact fun _ h => h
 rintro n y1 hn
 refine ZBx ?_
 refine KC (fun q0 z0 => ?_) (fun q0 z0 => ?_)
 ·refine A_9 ?_
  have hX9 := hB.turn aGg n
  have hr9 := hX9.r_ (5 * n + 4)
  have hv9 := hX9.v_ n
  have hv1 := hv9.len
  have hv2 := hv9.lev
  have hv3 := hv9.wait
  refine ZBx ?_
  refine RY (bT (s := 4) n rfl rfl rfl o_m o_m) rfl (ZDR ?_)
  refine ZBu ?_
  refine ZAb ?_
  refine ZAn ?_
  refine RY (aM (5 * n + 4) rfl rfl rfl o_m o_m) rfl (RZ (aH rfl rfl (aT m_m (by rw [az]; exact cBd_r hX9 (j := 5 * n + 4) o_m))) rfl (RW (bA rfl rfl) rfl y_dW (ZBR ?_)))
  refine KL (fun q1 z1 => ?_) (fun q1 z1 => ?_)
  ·refine A_10 ?_
   refine ZAd ?_
   exact ⟨n + 1, y_B, y_B, .cons rfl .nil, a_g, fun _ h => h.as y_bp⟩
  refine ZBB ?_
  refine RZ (aH rfl rfl (aT m_m (oJ hX9 (k := 1) o_m rfl))) rfl (ZBB ?_)
  refine KC (fun q2 z2 => ?_) (fun q2 z2 => ?_)
  ·refine ZAn ?_
   refine ZAd ?_
   exact ⟨n + 1, y_B, y_B, .cons rfl .nil, a_g, fun _ h => h.as y_bp⟩
  refine ZAn ?_
  have hX1 : ((turnV lenV B n).setV n { (turnV lenV B n).v n with len := ((turnV lenV B n).v n).len - 1 }).Wf := hX9.setV n ⟨y_dV, hv2, hv3⟩
  refine ZB6 ?_
  refine RZ (aH rfl rfl (aT m_m (oJ hX9 (k := 1) o_m rfl))) rfl (ZBT ?_)
  refine ZAn ?_
  refine RZ (aD (l' := cBd ((turnV lenV B n).setV n { (turnV lenV B n).v n with len := ((turnV lenV B n).v n).len - 1 })) 0 rfl rfl rfl rfl rfl rfl y_dc (putBd_v hX9 (k := 1) o_m y_b rfl)) rfl (ZD5 ?_)
  refine RZ (aH rfl rfl (aT (v := .bool ((turnV lenV B n).v n).on) m_m (oJ hX1 (k := 0) o_m y_br))) rfl (KL (fun q3 z3 => ?_) (fun q3 z3 => ?_))
  ·refine ZBB ?_
   refine RZ (aH rfl rfl (aT (v := .int .i64 (((turnV lenV B n).v n).len - 1)) m_m (oJ hX1 (k := 1) o_m y_br))) rfl (ZB6 ?_)
   refine RZ (aD (l' := cBd ((turnV lenV B n).setV n { (turnV lenV B n).v n with len := ((turnV lenV B n).v n).len - 1, on := decide (0 < ((turnV lenV B n).v n).len - 1) })) 0 rfl rfl rfl rfl rfl rfl y_ch ((putBd_v hX1 (k := 0) (y := { (turnV lenV B n).v n with len := ((turnV lenV B n).v n).len - 1, on := decide (0 < ((turnV lenV B n).v n).len - 1) }) o_m y_b y_br).trans y_cs)) rfl (ZBM ?_)
   refine ZAd ?_
   exact ⟨n + 1, y_B, y_B, .cons rfl .nil, a_g, fun _ h => h.as (by show _ = [(b, blk (cBd ((turnV lenV B n).setV n (lenV (turnV lenV B n) n ((turnV lenV B n).v n)))) 121)]; rw [show lenV (turnV lenV B n) n ((turnV lenV B n).v n) = _ from if_neg o_m, show ((turnV lenV B n).v n).on = true from q3]; rfl)⟩
  refine A_8 ?_
  refine RZ (aD (l' := cBd ((turnV lenV B n).setV n { (turnV lenV B n).v n with len := ((turnV lenV B n).v n).len - 1, on := false })) 0 rfl rfl rfl rfl rfl rfl y_ch ((putBd_v hX1 (k := 0) (y := { (turnV lenV B n).v n with len := ((turnV lenV B n).v n).len - 1, on := false }) o_m y_b y_br).trans y_cs)) rfl (ZBM ?_)
  refine ZAd ?_
  exact ⟨n + 1, y_B, y_B, .cons rfl .nil, a_g, fun _ h => h.as (by show _ = [(b, blk (cBd ((turnV lenV B n).setV n (lenV (turnV lenV B n) n ((turnV lenV B n).v n)))) 121)]; rw [show lenV (turnV lenV B n) n ((turnV lenV B n).v n) = _ from if_neg o_m, show ((turnV lenV B n).v n).on = false from q3]; rfl)⟩
 refine ZBR ?_
 obtain rfl : n = 4 := by omega
 exact EN sR_ ⟨rfl, rfl⟩
set_option maxHeartbeats 2000000 in
def aBX (b : Nat) (B : Bd) (hB : B.Wf) (w : AI) (hst : St w [b] [(b, blk (cBd B) 121)] w) : aC prog 250 [P_ b] w [b] (fun v H => v = .tuple #[] ∧ H = [(b, blk (cBd (pQ B)) 121)]) := by
 refine dO_ func250 hst ?_
 refine ZBx ?_
 refine bG (σ := Nat) [2, 3, 4, 5, 6, 7, 8, 9, 10, 11, 12, 13, 14, 15, 16, 17, 18, 19, 20, 21, 22, 23, 24, 25, 26, 27, 28, 29, 30, 31, 32, 33, 34, 35, 36, 37, 38, 39, 40, 41, 42, 43, 44, 45, 46, 47, 48, 49, 50, 51, 52, 53, 54, 55, 56, 57, 58, 59, 60, 61, 62, 63, 64, 65, 66, 67] (fun n => [(5, .int .i64 n)]) (fun n => [(b, blk (cBd (turnV levV B n)) 121)]) (fun n => n ≤ 4) (fun n => 4 - n) 0 ?_ ?_ ?_ ?_
 ·exact aj _
 ·exact .cons rfl .nil
 ·exact fun _ h => h
 rintro n y1 hn
 refine ZBx ?_
 refine KC (fun q0 z0 => ?_) (fun q0 z0 => ?_)
 ·refine A_9 ?_
  have hX9 := hB.turn aG1 n
  have hr9 := hX9.r_ (5 * n + 2)
  have hv9 := hX9.v_ n
  have hv1 := hv9.len
  have hv2 := hv9.lev
  have hv3 := hv9.wait
  refine DR [13] (pln [0, 2, 4, 6, 8, 10, 12, 14, 16, 18, 20, 22, 24, 26, 28]) ?_
  refine ZB6 ?_
  refine DY rfl (bT (s := 4) n rfl rfl rfl o_m o_m) rfl (ZAn ?_)
  refine DW rfl (aAm rfl rfl) rfl y_d (DW rfl (jI rfl rfl) rfl y_d (ZAn ?_))
  refine DY rfl (aM (5 * n + 2) rfl rfl rfl o_m o_m) rfl (DL rfl rfl rfl (cZ m_m (by rw [az]; exact cBd_r hX9 (j := 5 * n + 2) o_m)) rfl (A_8 ?_))
  refine KL (fun q1 z1 => ?_) (fun q1 z1 => ?_)
  ·refine A_8 ?_
   refine ZAd ?_
   exact ⟨n + 1, y_B, y_B, .cons rfl .nil, a_g, fun _ h => h.as y_bo⟩
  refine ZBR ?_
  refine RW (bA rfl rfl) rfl y_dF (ZBB ?_)
  refine KC (fun q2 z2 => ?_) (fun q2 z2 => ?_)
  ·refine ZAn ?_
   refine ZAd ?_
   exact ⟨n + 1, y_B, y_B, .cons rfl .nil, a_g, fun _ h => h.as y_bo⟩
  refine ZDR ?_
  refine RZ (aH rfl rfl (aT m_m (oJ hX9 (k := 3) o_m rfl))) rfl (ZBT ?_)
  refine ZAn ?_
  refine RZ (aD (l' := cBd ((turnV levV B n).setV n { (turnV levV B n).v n with wait := ((turnV levV B n).v n).wait - 1 })) 0 rfl rfl rfl rfl rfl rfl y_dc (putBd_v hX9 (k := 3) (y := { (turnV levV B n).v n with wait := ((turnV levV B n).v n).wait - 1 }) o_m y_b rfl)) rfl (ZBM ?_)
  have hX1 : ((turnV levV B n).setV n { (turnV levV B n).v n with wait := ((turnV levV B n).v n).wait - 1 }).Ln := hX9.ln.setV n _
  refine ZB6 ?_
  refine RZ (aH rfl rfl (aT (v := .int .i64 (((turnV levV B n).v n).wait - 1)) m_m (oJ hX1 (k := 3) o_m y_br))) rfl (ZAn ?_)
  refine KC (fun q3 z3 => ?_) (fun q3 z3 => ?_)
  ·refine ZAn ?_
   refine ZAd ?_
   exact ⟨n + 1, y_B, y_B, .cons rfl .nil, a_g, fun _ h => h.as (by show _ = [(b, blk (cBd ((turnV levV B n).setV n (levV (turnV levV B n) n ((turnV levV B n).v n)))) 121)]; rw [aJN o_m o_m])⟩
  refine ZBx ?_
  refine RW (bA rfl rfl) rfl y_dF (ZAU ?_)
  refine ZAn ?_
  refine RZ (aD (l' := cBd ((turnV levV B n).setV n { (turnV levV B n).v n with wait := (turnV levV B n).r (5 * n + 2) % 8 })) 0 rfl rfl rfl rfl rfl rfl y_ch ((putBd_v hX1 (k := 3) (y := { (turnV levV B n).v n with wait := (turnV levV B n).r (5 * n + 2) % 8 }) o_m y_b y_br).trans y_cs)) rfl (ZBM ?_)
  have hX2 : ((turnV levV B n).setV n { (turnV levV B n).v n with wait := (turnV levV B n).r (5 * n + 2) % 8 }).Ln := hX9.ln.setV n _
  refine ZAn ?_
  refine RW (bA rfl rfl) rfl y_eb (ZAn ?_)
  refine KC (fun q4 z4 => ?_) (fun q4 z4 => ?_)
  ·refine ZBx ?_
   refine RZ (aH rfl rfl (aT (v := .int .i64 ((turnV levV B n).v n).lev) m_m (oJ hX2 (k := 2) o_m y_br))) rfl (ZAb ?_)
   refine RY (kL rfl rfl) rfl (ZAn ?_)
   refine RZ (aD (l' := cBd ((turnV levV B n).setV n { (turnV levV B n).v n with wait := (turnV levV B n).r (5 * n + 2) % 8, lev := min (((turnV levV B n).v n).lev + 1) 15 })) 0 rfl rfl rfl rfl rfl rfl y_dd ((putBd_v hX2 (k := 2) (y := { (turnV levV B n).v n with wait := (turnV levV B n).r (5 * n + 2) % 8, lev := min (((turnV levV B n).v n).lev + 1) 15 }) o_m y_b y_br).trans y_cs)) rfl (ZBM ?_)
   refine ZAd ?_
   exact ⟨n + 1, y_B, y_B, .cons rfl .nil, a_g, fun _ h => h.as (by show _ = [(b, blk (cBd ((turnV levV B n).setV n (levV (turnV levV B n) n ((turnV levV B n).v n)))) 121)]; rw [aPl o_m o_m o_m])⟩
  refine ZBx ?_
  refine RZ (aH rfl rfl (aT (v := .int .i64 ((turnV levV B n).v n).lev) m_m (oJ hX2 (k := 2) o_m y_br))) rfl (ZBT ?_)
  refine RY (kN rfl rfl) rfl (ZAn ?_)
  refine RZ (aD (l' := cBd ((turnV levV B n).setV n { (turnV levV B n).v n with wait := (turnV levV B n).r (5 * n + 2) % 8, lev := max (((turnV levV B n).v n).lev - 1) 0 })) 0 rfl rfl rfl rfl rfl rfl y_dd ((putBd_v hX2 (k := 2) (y := { (turnV levV B n).v n with wait := (turnV levV B n).r (5 * n + 2) % 8, lev := max (((turnV levV B n).v n).lev - 1) 0 }) o_m y_b y_br).trans y_cs)) rfl (ZBM ?_)
  refine ZAd ?_
  exact ⟨n + 1, y_B, y_B, .cons rfl .nil, a_g, fun _ h => h.as (by show _ = [(b, blk (cBd ((turnV levV B n).setV n (levV (turnV levV B n) n ((turnV levV B n).v n)))) 121)]; rw [aII o_m o_m o_m])⟩
 refine ZBR ?_
 obtain rfl : n = 4 := by omega
 exact EN sR_ ⟨rfl, rfl⟩
set_option maxHeartbeats 2000000 in
def slideB_fn (b : Nat) (B : Bd) (hB : B.Wf) (w : AI) (hst : St w [b] [(b, blk (cBd B) 121)] w) : aC prog 249 [P_ b] w [b] (fun v H => v = .tuple #[] ∧ H = [(b, blk (cBd (slideB B)) 121)]) := by
 have k1 := hB.slide
 have hB1 : ({ B with slide := B.slide - 1 } : Bd).Ln := hB.ln.slide_ _
 have hB2 : (bN ({ B with slide := B.slide - 1 } : Bd)).Wf := aRe hB
 refine dO_ func249 hst ?_
 refine ZB2 ?_
 refine RZ (aH rfl rfl (aT m_m (by exact aH4 hB))) rfl (ZAn ?_)
 refine KC (fun q0 z0 => ?_) (fun q0 z0 => ?_)
 ·refine ZBR ?_
  exact EN sR_ ⟨rfl, by rw [aHo (by simpa using q0)]⟩
 refine ZB2 ?_
 refine RZ (aH rfl rfl (aT m_m (by exact yJ hB))) rfl (ZBT ?_)
 refine ZAn ?_
 refine RZ (aD (l' := cBd (({ B with slide := B.slide - 1 } : Bd))) 0 rfl rfl rfl rfl rfl rfl y_T (uK hB _)) rfl (ZAC ?_)
 refine ZDR ?_
 refine RZ (aH rfl rfl (aT m_m (by exact yJ hB1))) rfl (ZAn ?_)
 refine KC (fun q1 z1 => ?_) (fun q1 z1 => ?_)
 ·refine ZBR ?_
  exact EN sR_ ⟨rfl, by rw [aF0 (show B.slides = true by simpa using q0) z1]⟩
 refine ZB6 ?_
 refine RZ (dB K_ rfl (wV_ (aAH b ({ B with slide := B.slide - 1 } : Bd) hB1))) rfl (ZBx ?_)
 refine RLv K_ (fun w hw => uH b (bN ({ B with slide := B.slide - 1 } : Bd)) hB2 w (aA m_m w hw)) ?_
 refine ZBR ?_
 refine KL (fun q2 z2 => ?_) (fun q2 z2 => ?_)
 ·refine A_11 ?_
  exact EN sR_ ⟨rfl, by rw [aFY (show B.slides = true by simpa using q0) o_m z2]⟩
 refine ZBR ?_
 refine RZ (dB K_ rfl (wV_ (tJ b (bN ({ B with slide := B.slide - 1 } : Bd)) hB2))) rfl (ZBR ?_)
 refine KL (fun q3 z3 => ?_) (fun q3 z3 => ?_)
 ·refine ZDR ?_
  exact EN sR_ ⟨rfl, by rw [aF6 (show B.slides = true by simpa using q0) o_m z2 q3]⟩
 refine ZBR ?_
 have hc9 := aLN q3
 refine cE (H' := [(b, blk (cBd (bN ({ B with slide := B.slide - 1 } : Bd))) 121)]) (fun _ h => h.as (by rw [hc9])) ?_
 refine RLv K_ (fun w hw => vS b (bN ({ B with slide := B.slide - 1 } : Bd)) hB2 w (aA m_m w hw)) ?_
 refine ZBB ?_
 refine KC (fun q4 z4 => ?_) (fun q4 z4 => ?_)
 ·refine ZBR ?_
  exact EN sR_ ⟨rfl, by rw [aJt (show B.slides = true by simpa using q0) o_m z2 q3 z4]⟩
 refine ZAn ?_
 have hn9 := aGs hB2
 have hn8 : fL (bN ({ B with slide := B.slide - 1 } : Bd)) ≤ 2047 := by have h9 := df (show decide (2047 < fL (bN ({ B with slide := B.slide - 1 } : Bd))) = false from q3); omega
 have hB3 : ({ (bN ({ B with slide := B.slide - 1 } : Bd)) with pitch := fL (bN ({ B with slide := B.slide - 1 } : Bd)) } : Bd).Wf := hB2.pitch_ o_m
 have hB4 : (putB 3 (fL (bN ({ B with slide := B.slide - 1 } : Bd)) % 256) ({ (bN ({ B with slide := B.slide - 1 } : Bd)) with pitch := fL (bN ({ B with slide := B.slide - 1 } : Bd)) } : Bd)).Wf := hB3.put 3 o_m
 have hr4 := hB2.r_ 4
 refine ZBB ?_
 refine RLv K_ (fun w hw => aEO b (bN ({ B with slide := B.slide - 1 } : Bd)) hB2 w (aA m_m w hw)) ?_
 refine ZAn ?_
 refine RZ (aD (l' := cBd (({ (bN ({ B with slide := B.slide - 1 } : Bd)) with pitch := fL (bN ({ B with slide := B.slide - 1 } : Bd)) } : Bd))) 0 rfl rfl rfl rfl rfl rfl (by rw [cBd_len hB2]; simp only [Lc_, ar]; omega) (uW hB2 _)) rfl (ZBM ?_)
 refine DR [7, 8, 9, 10, 11, 12, 13, 14, 15, 16, 17, 18, 19, 20, 21, 22, 25, 26] (pln [0, 2, 4, 6, 8, 10, 12, 14, 16, 18, 20, 22, 24, 26, 28, 30, 32, 34, 36, 38, 40, 42, 44, 46, 50, 52, 49, 54, 57]) ?_
 refine ZBx ?_
 refine DL rfl rfl rfl (cZ (v := .int .i64 (fL (bN ({ B with slide := B.slide - 1 } : Bd)))) m_m (rE hB3.ln)) rfl (ZBN ?_)
 refine ZBB ?_
 refine DY rfl y_dI rfl (DL rfl rfl rfl (cZ m_m (cBd_r hB3.ln (j := 4) y_b)) rfl (DW (v := (.int .u8 ((bN ({ B with slide := B.slide - 1 } : Bd)).r 4 / 8 * 8))) rfl (sJ rfl rfl) rfl (cA_ U_ (aJr hr4)) ?_))
 refine ZBB ?_
 refine DL rfl rfl rfl (cZ (v := .int .i64 (fL (bN ({ B with slide := B.slide - 1 } : Bd)))) m_m (rE hB3.ln)) rfl (ZC4 ?_)
 refine DW rfl (bA rfl rfl) rfl y_dF (DW (v := (.int .u8 ((bN ({ B with slide := B.slide - 1 } : Bd)).r 4 / 8 * 8 + fL (bN ({ B with slide := B.slide - 1 } : Bd)) / 256 % 8))) rfl (cM rfl rfl) rfl (cA_ U_ (aPW (y := fL (bN ({ B with slide := B.slide - 1 } : Bd)) / 256 % 8) hr4 o_m)) ?_)
 refine ZAn ?_
 refine DY rfl y_dG rfl (ZAn ?_)
 refine DZ rfl (aD (l' := cBd ((putB 3 (fL (bN ({ B with slide := B.slide - 1 } : Bd)) % 256) ({ (bN ({ B with slide := B.slide - 1 } : Bd)) with pitch := fL (bN ({ B with slide := B.slide - 1 } : Bd)) } : Bd)))) 0 rfl rfl rfl rfl rfl rfl (by rw [cBd_len hB3]; simp only [Lc_, ar]; omega) (putBd_r hB3.ln (j := 3) y_b _)) rfl n_h (ZAC ?_)
 refine DY rfl y_dI rfl (DZ rfl (aD (l' := cBd (aBF (bN ({ B with slide := B.slide - 1 } : Bd)))) 0 rfl rfl rfl rfl rfl rfl (by rw [cBd_len hB4]; simp only [Lc_, ar]; omega) (putBd_r hB4.ln (j := 4) y_b _)) rfl n_h (ZDf ?_))
 refine RZ (dB K_ rfl (wV_ (tJ b (aBF (bN ({ B with slide := B.slide - 1 } : Bd))) (aGu hB2 q3)))) rfl (ZBR ?_)
 exact EN sR_ ⟨rfl, by rw [aIq (show B.slides = true by simpa using q0) o_m z2 q3 z4]⟩
set_option maxHeartbeats 2000000 in
def beginB_fn (b : Nat) (B : Bd) (hB : B.Wf) (n : Nat) (hn : n < 4) (w : AI) (hst : St w [b] [(b, blk (cBd B) 121)] w) : aC prog 207 [P_ b, .int .i64 n] w [b] (fun v H => v = .tuple #[] ∧ H = [(b, blk (cBd (beginB n B)) 121)]) := by
 have hr9 := hB.r_ (5 * n + 2)
 have hv9 := (hB.v_ n).len
 have hV1 : (B.setV n { B.v n with on := readyB n B }).Ln := hB.ln.setV n _
 have hV2 : (B.setV n { B.v n with on := readyB n B, lev := B.r (5 * n + 2) / 16 }).Ln := hB.ln.setV n _
 have hV3 : (B.setV n { B.v n with on := readyB n B, lev := B.r (5 * n + 2) / 16, wait := B.r (5 * n + 2) % 8 }).Ln := hB.ln.setV n _
 refine dO_ func207 hst ?_
 refine ZBR ?_
 refine DR [13] (pln [0, 2, 4, 6, 8, 10, 12, 14, 16, 18, 20, 22, 24, 26, 28]) ?_
 refine ZB6 ?_
 refine DY rfl (bT (s := 4) n rfl rfl rfl o_m o_m) rfl (ZAn ?_)
 refine DW rfl (aAm rfl rfl) rfl y_d (DW rfl (jI rfl rfl) rfl y_d (ZAn ?_))
 refine DY rfl (aM (5 * n + 2) rfl rfl rfl o_m o_m) rfl (DL rfl rfl rfl (cZ m_m (by rw [az]; exact cBd_r hB (j := 5 * n + 2) o_m)) rfl (A_10 ?_))
 refine RLv K_ (fun w hw => readyB_fn b B hB w (aA m_m w hw) n hn) ?_
 refine ZBR ?_
 refine RW (dK rfl rfl y_b) rfl (iK 16 y_b y_b) (ZAU ?_)
 refine ZBR ?_
 refine RW (bA rfl rfl) rfl y_dF (ZAU ?_)
 refine ZAn ?_
 refine RZ (aD (l' := cBd (B.setV n { B.v n with on := readyB n B })) 0 rfl rfl rfl rfl rfl rfl y_T ((putBd_v hB (k := 0) (y := { B.v n with on := readyB n B }) hn y_b (by rfl)).trans (by rfl))) rfl (ZBM ?_)
 refine RZ (aD (l' := cBd (B.setV n { B.v n with on := readyB n B, lev := B.r (5 * n + 2) / 16 })) 0 rfl rfl rfl rfl rfl rfl (by rw [cBd_len hV1]; simp only [Lc_, ar]; omega) ((putBd_v hV1 (k := 2) (y := { B.v n with on := readyB n B, lev := B.r (5 * n + 2) / 16 }) hn y_b y_cU).trans y_cs)) rfl (ZBM ?_)
 refine RZ (aD (l' := cBd (B.setV n { B.v n with on := readyB n B, lev := B.r (5 * n + 2) / 16, wait := B.r (5 * n + 2) % 8 })) 0 rfl rfl rfl rfl rfl rfl (by rw [cBd_len hV2]; simp only [Lc_, ar]; omega) ((putBd_v hV2 (k := 3) (y := { B.v n with on := readyB n B, lev := B.r (5 * n + 2) / 16, wait := B.r (5 * n + 2) % 8 }) hn y_b y_cU).trans y_cs)) rfl (ZAC ?_)
 refine ZDR ?_
 refine RZ (aH rfl rfl (aT (v := .int .i64 (B.v n).len) m_m (oJ hV3 (k := 1) hn y_cU))) rfl (ZAn ?_)
 refine KC (fun q0 z0 => ?_) (fun q0 z0 => ?_)
 ·refine ZBB ?_
  refine RLv K_ (wQ_ (pH n)) ?_
  refine ZAn ?_
  refine RZ (aD (l' := cBd (B.setV n { B.v n with on := readyB n B, lev := B.r (5 * n + 2) / 16, wait := B.r (5 * n + 2) % 8, len := longest n })) 0 rfl rfl rfl rfl rfl rfl (by rw [cBd_len hV3]; simp only [Lc_, ar]; omega) ((putBd_v hV3 (k := 1) (y := { B.v n with on := readyB n B, lev := B.r (5 * n + 2) / 16, wait := B.r (5 * n + 2) % 8, len := longest n }) hn y_b y_cU).trans y_cs)) rfl (ZDf ?_)
  have hc9 : aO B n = { B.v n with on := readyB n B, lev := B.r (5 * n + 2) / 16, wait := B.r (5 * n + 2) % 8, len := longest n } := by unfold aO; rw [if_pos o_m]
  rw [← hc9]
  have hC9 := hB.setV n (zO hB n)
  rcases dd n with rfl | hn0
  ·refine ZAn ?_
   refine dT false rfl rfl rfl y_b ?_
   refine ZB6 ?_
   have hP9 : ({ (B.setV 0 (aO B 0)) with pitch := (B.setV 0 (aO B 0)).r 3 + (B.setV 0 (aO B 0)).r 4 % 8 * 256 } : Bd).Wf := hC9.pitch_ (by have := hC9.r_ 3; omega)
   have hr3 := hC9.r_ 3
   have hr4 := hC9.r_ 4
   have hW9 : (bN ({ (B.setV 0 (aO B 0)) with pitch := (B.setV 0 (aO B 0)).r 3 + (B.setV 0 (aO B 0)).r 4 % 8 * 256 } : Bd)).Wf := hP9.waitW
   have hS9 : (kK (bN ({ (B.setV 0 (aO B 0)) with pitch := (B.setV 0 (aO B 0)).r 3 + (B.setV 0 (aO B 0)).r 4 % 8 * 256 } : Bd))).Wf := hW9.slidesW
   refine DR [7, 8, 9, 10, 11, 12, 13, 14] (pln [0, 2, 4, 6, 8, 10, 12, 14, 16, 18, 20, 22, 24, 26, 28, 30, 32, 34, 37]) ?_
   refine ZB6 ?_
   refine DY rfl y_dG rfl (DL rfl rfl rfl (cZ m_m (cBd_r hC9 (j := 3) y_b)) rfl (DW rfl (dM rfl rfl rfl) rfl y_d (ZBB ?_)))
   refine DY rfl y_dI rfl (DL rfl rfl rfl (cZ m_m (cBd_r hC9 (j := 4) y_b)) rfl (DW rfl (bA rfl rfl) rfl y_dF (DW rfl (dM rfl rfl rfl) rfl y_d ?_)))
   refine DW rfl (dJ rfl rfl y_b) rfl y_dS (DW (v := (.int .i64 ((B.setV 0 (aO B 0)).r 3 + (B.setV 0 (aO B 0)).r 4 % 8 * 256))) rfl (cM rfl rfl) rfl (cA_ (Value.int .i64) (tZ (A := (B.setV 0 (aO B 0)).r 4 % 8 * 256) o_m o_m o_m hr3)) (ZAn ?_))
   refine DZ rfl (aD (l' := cBd (({ (B.setV 0 (aO B 0)) with pitch := (B.setV 0 (aO B 0)).r 3 + (B.setV 0 (aO B 0)).r 4 % 8 * 256 } : Bd))) 0 rfl rfl rfl rfl rfl rfl y_df (uW hC9 _)) rfl n_h (ZAC ?_)
   refine ZB6 ?_
   refine RZ (dB K_ rfl (wV_ (aAH b ({ (B.setV 0 (aO B 0)) with pitch := (B.setV 0 (aO B 0)).r 3 + (B.setV 0 (aO B 0)).r 4 % 8 * 256 } : Bd) hP9))) rfl (ZBx ?_)
   refine RLv K_ (fun w hw => uH b (bN ({ (B.setV 0 (aO B 0)) with pitch := (B.setV 0 (aO B 0)).r 3 + (B.setV 0 (aO B 0)).r 4 % 8 * 256 } : Bd)) hW9 w (aA m_m w hw)) ?_
   refine ZBR ?_
   refine RLv K_ (fun w hw => vS b (bN ({ (B.setV 0 (aO B 0)) with pitch := (B.setV 0 (aO B 0)).r 3 + (B.setV 0 (aO B 0)).r 4 % 8 * 256 } : Bd)) hW9 w (aA m_m w hw)) ?_
   refine RY (cM rfl rfl) rfl (RW (v := (.bool (decide (everyB (bN ({ (B.setV 0 (aO B 0)) with pitch := (B.setV 0 (aO B 0)).r 3 + (B.setV 0 (aO B 0)).r 4 % 8 * 256 } : Bd)) ≠ 0 ∨ byB (bN ({ (B.setV 0 (aO B 0)) with pitch := (B.setV 0 (aO B 0)).r 3 + (B.setV 0 (aO B 0)).r 4 % 8 * 256 } : Bd)) ≠ 0)))) rfl rfl (cA_ Value.bool (aNG (pP _) (aIx _))) (ZAn ?_))
   refine RZ (aD (l' := cBd ((kK (bN ({ (B.setV 0 (aO B 0)) with pitch := (B.setV 0 (aO B 0)).r 3 + (B.setV 0 (aO B 0)).r 4 % 8 * 256 } : Bd))))) 0 rfl rfl rfl rfl rfl rfl y_de (yF hW9 _)) rfl (ZAC ?_)
   refine ZB6 ?_
   refine RLv K_ (fun w hw => vS b (kK (bN ({ (B.setV 0 (aO B 0)) with pitch := (B.setV 0 (aO B 0)).r 3 + (B.setV 0 (aO B 0)).r 4 % 8 * 256 } : Bd))) hS9 w (aA m_m w hw)) ?_
   refine ZAn ?_
   refine KC (fun q1 z1 => ?_) (fun q1 z1 => ?_)
   ·refine ZAn ?_
    refine RZ (dB K_ rfl (wV_ (tJ b (kK (bN ({ (B.setV 0 (aO B 0)) with pitch := (B.setV 0 (aO B 0)).r 3 + (B.setV 0 (aO B 0)).r 4 % 8 * 256 } : Bd))) hS9))) rfl (ZBR ?_)
    exact EN sR_ ⟨rfl, y_ej⟩
   refine ZBR ?_
   exact EN sR_ ⟨rfl, y_ek⟩
  refine ZAn ?_
  refine ZDb ?_
  refine ZBB ?_
  exact EN sR_ ⟨rfl, by unfold beginB; dsimp only; rw [if_pos hn0]⟩
 refine ZBB ?_
 have hc9 : aO B n = { B.v n with on := readyB n B, lev := B.r (5 * n + 2) / 16, wait := B.r (5 * n + 2) % 8 } := by unfold aO; rw [if_neg o_m]
 rw [← hc9]
 have hC9 := hB.setV n (zO hB n)
 rcases dd n with rfl | hn0
 ·refine ZAn ?_
  refine dT false rfl rfl rfl y_b ?_
  refine ZB6 ?_
  have hP9 : ({ (B.setV 0 (aO B 0)) with pitch := (B.setV 0 (aO B 0)).r 3 + (B.setV 0 (aO B 0)).r 4 % 8 * 256 } : Bd).Wf := hC9.pitch_ (by have := hC9.r_ 3; omega)
  have hr3 := hC9.r_ 3
  have hr4 := hC9.r_ 4
  have hW9 : (bN ({ (B.setV 0 (aO B 0)) with pitch := (B.setV 0 (aO B 0)).r 3 + (B.setV 0 (aO B 0)).r 4 % 8 * 256 } : Bd)).Wf := hP9.waitW
  have hS9 : (kK (bN ({ (B.setV 0 (aO B 0)) with pitch := (B.setV 0 (aO B 0)).r 3 + (B.setV 0 (aO B 0)).r 4 % 8 * 256 } : Bd))).Wf := hW9.slidesW
  refine DR [7, 8, 9, 10, 11, 12, 13, 14] (pln [0, 2, 4, 6, 8, 10, 12, 14, 16, 18, 20, 22, 24, 26, 28, 30, 32, 34, 37]) ?_
  refine ZB6 ?_
  refine DY rfl y_dG rfl (DL rfl rfl rfl (cZ m_m (cBd_r hC9 (j := 3) y_b)) rfl (DW rfl (dM rfl rfl rfl) rfl y_d (ZBB ?_)))
  refine DY rfl y_dI rfl (DL rfl rfl rfl (cZ m_m (cBd_r hC9 (j := 4) y_b)) rfl (DW rfl (bA rfl rfl) rfl y_dF (DW rfl (dM rfl rfl rfl) rfl y_d ?_)))
  refine DW rfl (dJ rfl rfl y_b) rfl y_dS (DW (v := (.int .i64 ((B.setV 0 (aO B 0)).r 3 + (B.setV 0 (aO B 0)).r 4 % 8 * 256))) rfl (cM rfl rfl) rfl (cA_ (Value.int .i64) (tZ (A := (B.setV 0 (aO B 0)).r 4 % 8 * 256) o_m o_m o_m hr3)) (ZAn ?_))
  refine DZ rfl (aD (l' := cBd (({ (B.setV 0 (aO B 0)) with pitch := (B.setV 0 (aO B 0)).r 3 + (B.setV 0 (aO B 0)).r 4 % 8 * 256 } : Bd))) 0 rfl rfl rfl rfl rfl rfl y_df (uW hC9 _)) rfl n_h (ZAC ?_)
  refine ZB6 ?_
  refine RZ (dB K_ rfl (wV_ (aAH b ({ (B.setV 0 (aO B 0)) with pitch := (B.setV 0 (aO B 0)).r 3 + (B.setV 0 (aO B 0)).r 4 % 8 * 256 } : Bd) hP9))) rfl (ZBx ?_)
  refine RLv K_ (fun w hw => uH b (bN ({ (B.setV 0 (aO B 0)) with pitch := (B.setV 0 (aO B 0)).r 3 + (B.setV 0 (aO B 0)).r 4 % 8 * 256 } : Bd)) hW9 w (aA m_m w hw)) ?_
  refine ZBR ?_
  refine RLv K_ (fun w hw => vS b (bN ({ (B.setV 0 (aO B 0)) with pitch := (B.setV 0 (aO B 0)).r 3 + (B.setV 0 (aO B 0)).r 4 % 8 * 256 } : Bd)) hW9 w (aA m_m w hw)) ?_
  refine RY (cM rfl rfl) rfl (RW (v := (.bool (decide (everyB (bN ({ (B.setV 0 (aO B 0)) with pitch := (B.setV 0 (aO B 0)).r 3 + (B.setV 0 (aO B 0)).r 4 % 8 * 256 } : Bd)) ≠ 0 ∨ byB (bN ({ (B.setV 0 (aO B 0)) with pitch := (B.setV 0 (aO B 0)).r 3 + (B.setV 0 (aO B 0)).r 4 % 8 * 256 } : Bd)) ≠ 0)))) rfl rfl (cA_ Value.bool (aNG (pP _) (aIx _))) (ZAn ?_))
  refine RZ (aD (l' := cBd ((kK (bN ({ (B.setV 0 (aO B 0)) with pitch := (B.setV 0 (aO B 0)).r 3 + (B.setV 0 (aO B 0)).r 4 % 8 * 256 } : Bd))))) 0 rfl rfl rfl rfl rfl rfl y_de (yF hW9 _)) rfl (ZAC ?_)
  refine ZB6 ?_
  refine RLv K_ (fun w hw => vS b (kK (bN ({ (B.setV 0 (aO B 0)) with pitch := (B.setV 0 (aO B 0)).r 3 + (B.setV 0 (aO B 0)).r 4 % 8 * 256 } : Bd))) hS9 w (aA m_m w hw)) ?_
  refine ZAn ?_
  refine KC (fun q1 z1 => ?_) (fun q1 z1 => ?_)
  ·refine ZAn ?_
   refine RZ (dB K_ rfl (wV_ (tJ b (kK (bN ({ (B.setV 0 (aO B 0)) with pitch := (B.setV 0 (aO B 0)).r 3 + (B.setV 0 (aO B 0)).r 4 % 8 * 256 } : Bd))) hS9))) rfl (ZBR ?_)
   exact EN sR_ ⟨rfl, y_ej⟩
  refine ZBR ?_
  exact EN sR_ ⟨rfl, y_ek⟩
 refine ZAn ?_
 refine ZDb ?_
 refine ZBB ?_
 exact EN sR_ ⟨rfl, by unfold beginB; dsimp only; rw [if_pos hn0]⟩
def tickB_fn (B : Bd) (hB : B.Wf) (w : AI) : aC prog 237 [.agg (cBd B).toArray] w [] (V_ (.agg (cBd (tickB B)).toArray)) := by
 have k1 := hB.div
 have k2 := hB.step
 have hD1 : ({ B with div := B.div + 1 } : Bd).Ln := ⟨hB.lR, hB.bR, hB.lV⟩
 have hD0 : ({ B with div := 0 } : Bd).Wf := hB.div_ o_m
 have hH : (halfB ({ B with div := 0 } : Bd)).Wf := hD0.half
 have hE : (beatB ({ B with div := 0 } : Bd)).Wf := hD0.beat
 have hFN : ({ (beatB ({ B with div := 0 } : Bd)) with step := (B.step + 1) % 8 } : Bd).Ln := ⟨hE.lR, hE.bR, hE.lV⟩
 refine dR_ func237 ?_
 refine ZEE ?_
 refine ZBz fun b0 => ?_
 refine RX (bY (l := cBd bdZ) y_i) rfl ?_
 rintro _ _ ⟨b1, rfl, rfl⟩
 refine ZBx ?_
 refine RZ (aH rfl rfl (aT (v := .bool B.on) m_m (cBd_on hB))) rfl (ZAn ?_)
 refine KC (fun q0 z0 => ?_) (fun q0 z0 => ?_)
 ·refine ZAn ?_
  refine ZA3 ?_
  refine ZBM ?_
  exact aF (fun w hw => aU rfl rfl y_bj (aA (b := b1) (l := cBd B) m_m w hw)) ⟨rfl, by unfold tickB; rw [if_pos (by simpa using q0)]⟩
 refine ZBx ?_
 refine RZ (aH rfl rfl (aT m_m (aCC hB))) rfl (ZAb ?_)
 refine ZBR ?_
 refine RZ (aD (l' := cBd (({ B with div := B.div + 1 } : Bd))) 1 rfl rfl rfl rfl rfl rfl y_T (zE hB _)) rfl (ZAC ?_)
 refine ZB6 ?_
 refine RZ (aH rfl rfl (aT (v := .int .i64 (B.div + 1)) m_m (aCC (b := ({ B with div := B.div + 1 } : Bd)) hD1))) rfl (ZAn ?_)
 refine KC (fun q1 z1 => ?_) (fun q1 z1 => ?_)
 ·refine ZAn ?_
  refine RZ (aL rfl rfl (by rw [cBd_len hD1]; rfl) (aA (b := b0) (l := cBd ({ B with div := B.div + 1 } : Bd)) m_m)) rfl (RZ (aD (l' := cBd ({ B with div := B.div + 1 } : Bd)) 0 rfl rfl rfl (by rw [cBd_len hD1]; rfl) (ones_cBd _) rfl (by rw [cBd_len hD1, cBd_len bdZ_wf]; decide) (putZ hD1)) rfl (ZBM ?_))
  exact aF (fun w hw => aU rfl rfl (by rw [cBd_len hD1]; rfl) (aA (b := b1) (l := cBd ({ B with div := B.div + 1 } : Bd)) m_m w hw)) ⟨rfl, by unfold tickB; rw [if_neg (by rw [show B.on = true by simpa using q0]; decide), if_pos o_m]⟩
 refine ZB6 ?_
 refine RZ (aD (l' := cBd (({ B with div := 0 } : Bd))) 1 rfl rfl rfl rfl rfl rfl (by rw [cBd_len hD1]; simp only [Lc_, ar]; omega) (zE hD1 _)) rfl (ZAC ?_)
 refine ZBx ?_
 refine RZ (aH rfl rfl (aT (v := .int .i64 B.step) m_m (cBd_step (b := ({ B with div := 0 } : Bd)) hD0))) rfl (RW (bA rfl rfl) rfl (by first | exact gR 1 2 y_b rfl o_m (show _ < (9223372036854775808 : Int) by omega) (show _ < (9223372036854775808 : Int) by decide) | rfl) (ZAn ?_))
 refine KC (fun q2 z2 => ?_) (fun q2 z2 => ?_)
 ·refine ZBR ?_
  refine RX (aS (F := [(b1, blk (cBd bdZ) 121)]) (A := [(b0, blk (cBd ({ B with div := 0 } : Bd)) 121)]) (R := fun v H => v = .tuple #[] ∧ H = [(b0, blk (cBd (wA ({ B with div := 0 } : Bd))) 121)]) K_ rfl (wL_ (aF9 b0 ({ B with div := 0 } : Bd) hD0))) rfl (ZAF ?_)
  refine ZBB ?_
  have hh9 : wA ({ B with div := 0 } : Bd) = (halfB ({ B with div := 0 } : Bd)) := by unfold halfB; rw [if_pos (show (B.step % 2 = 0) by omega)]
  refine ZD8 ?_
  refine RZ (aH rfl rfl (aT (v := .int .i64 B.step) m_m ((cBd_step hH).trans (by rw [qZ])))) rfl (A_8 ?_)
  refine KC (fun q3 z3 => ?_) (fun q3 z3 => ?_)
  ·refine ZBR ?_
   refine fK true rfl q3 ?_
   refine ZB3 ?_
   refine ZAF ?_
   refine ZEb fun hh8 => ?_
   refine ZBO ?_
   refine ZAb ?_
   refine ZBU ?_
   refine ZAh ?_
   refine ZDf ?_
   refine ZAL ?_
   refine ZAC ?_
   exact ZAX
  refine ZB6 ?_
  refine KC (fun q4 z4 => ?_) (fun q4 z4 => ?_)
  ·refine ZB3 ?_
   refine ZAF ?_
   refine ZEb fun hh8 => ?_
   refine ZBO ?_
   refine ZAb ?_
   refine ZBU ?_
   refine ZAh ?_
   refine ZDf ?_
   refine ZAL ?_
   refine ZAC ?_
   exact ZAX
  refine ZBx ?_
  refine KC (fun q5 z5 => ?_) (fun q5 z5 => ?_)
  ·refine ZBR ?_
   refine RX (aS (F := [(b1, blk (cBd bdZ) 121)]) (A := [(b0, blk (cBd (halfB ({ B with div := 0 } : Bd))) 121)]) (R := fun v H => v = .tuple #[] ∧ H = [(b0, blk (cBd (pQ (halfB ({ B with div := 0 } : Bd)))) 121)]) K_ rfl (wL_ (aBX b0 (halfB ({ B with div := 0 } : Bd)) hH))) rfl (ZAF ?_)
   refine ZAn ?_
   have hh8 : pQ (halfB ({ B with div := 0 } : Bd)) = (beatB ({ B with div := 0 } : Bd)) := by unfold beatB; rw [if_neg (show ¬ (B.step = 2 ∨ B.step = 6) by omega), if_pos (show B.step = 7 by omega)]
   refine ZBO ?_
   refine ZAb ?_
   refine ZBU ?_
   refine ZAh ?_
   refine ZDf ?_
   refine ZAL ?_
   refine ZAC ?_
   exact ZAX
  refine ZDi fun hh8 => ?_
  refine ZBO ?_
  refine ZAb ?_
  refine ZBU ?_
  refine ZAh ?_
  refine ZDf ?_
  refine ZAL ?_
  refine ZAC ?_
  exact ZAX
 refine ZBB ?_
 have hh9 : ({ B with div := 0 } : Bd) = (halfB ({ B with div := 0 } : Bd)) := by unfold halfB; rw [if_neg (show ¬ (B.step % 2 = 0) by omega)]
 refine ZD8 ?_
 refine RZ (aH rfl rfl (aT (v := .int .i64 B.step) m_m ((cBd_step hH).trans (by rw [qZ])))) rfl (A_8 ?_)
 refine KC (fun q3 z3 => ?_) (fun q3 z3 => ?_)
 ·refine ZBR ?_
  refine fK true rfl q3 ?_
  refine ZB3 ?_
  refine ZAF ?_
  refine ZEb fun hh8 => ?_
  refine ZBO ?_
  refine ZAb ?_
  refine ZBU ?_
  refine ZAh ?_
  refine ZDf ?_
  refine ZAL ?_
  refine ZAC ?_
  exact ZAX
 refine ZB6 ?_
 refine KC (fun q4 z4 => ?_) (fun q4 z4 => ?_)
 ·refine ZB3 ?_
  refine ZAF ?_
  refine ZEb fun hh8 => ?_
  refine ZBO ?_
  refine ZAb ?_
  refine ZBU ?_
  refine ZAh ?_
  refine ZDf ?_
  refine ZAL ?_
  refine ZAC ?_
  exact ZAX
 refine ZBx ?_
 refine KC (fun q5 z5 => ?_) (fun q5 z5 => ?_)
 ·refine ZBR ?_
  refine RX (aS (F := [(b1, blk (cBd bdZ) 121)]) (A := [(b0, blk (cBd (halfB ({ B with div := 0 } : Bd))) 121)]) (R := fun v H => v = .tuple #[] ∧ H = [(b0, blk (cBd (pQ (halfB ({ B with div := 0 } : Bd)))) 121)]) K_ rfl (wL_ (aBX b0 (halfB ({ B with div := 0 } : Bd)) hH))) rfl (ZAF ?_)
  refine ZAn ?_
  have hh8 : pQ (halfB ({ B with div := 0 } : Bd)) = (beatB ({ B with div := 0 } : Bd)) := by unfold beatB; rw [if_neg (show ¬ (B.step = 2 ∨ B.step = 6) by omega), if_pos (show B.step = 7 by omega)]
  refine ZBO ?_
  refine ZAb ?_
  refine ZBU ?_
  refine ZAh ?_
  refine ZDf ?_
  refine ZAL ?_
  refine ZAC ?_
  exact ZAX
 refine ZDi fun hh8 => ?_
 refine ZBO ?_
 refine ZAb ?_
 refine ZBU ?_
 refine ZAh ?_
 refine ZDf ?_
 refine ZAL ?_
 refine ZAC ?_
 exact ZAX
def aEL (B : Bd) (hB : B.Wf) (on : Bool) (w : AI) : aC prog 205 [.agg (cBd B).toArray, .bool on] w [] (V_ (.agg (cBd (if on = true then onB B else offB B)).toArray)) := by
 have hZ2 : ({ bdZ with div := B.div, step := B.step } : Bd).Ln := ⟨bdZ_wf.lR, bdZ_wf.bR, bdZ_wf.lV⟩
 have hN0 : ({ B with div := 0 } : Bd).Ln := ⟨hB.lR, hB.bR, hB.lV⟩
 have hN1 : ({ B with div := 0, step := 0 } : Bd).Ln := ⟨hB.lR, hB.bR, hB.lV⟩
 have hN2 : ({ B with div := 0, step := 0, on := true } : Bd).Ln := ⟨hB.lR, hB.bR, hB.lV⟩
 have hN3 : ({ B with on := true } : Bd).Ln := ⟨hB.lR, hB.bR, hB.lV⟩
 refine dR_ func205 ?_
 refine ZEE ?_
 refine ZBz fun b0 => ?_
 refine RX (bY (l := cBd bdZ) y_i) rfl ?_
 rintro _ _ ⟨b1, rfl, rfl⟩
 refine ZDR ?_
 refine KC (fun q0 z0 => ?_) (fun q0 z0 => ?_)
 ·refine ZBB ?_
  refine RZ (aH rfl rfl (aT m_m (aCC hB))) rfl (ZBR ?_)
  refine RZ (aH rfl rfl (aT m_m (cBd_step hB))) rfl (RY (eB (l := cBd ({ bdZ with div := B.div, step := B.step } : Bd)) (z := cBd bdZ) (ps := [(2, .int .i64 B.div), (3, .int .i64 B.step)]) rfl y_i rfl rfl) rfl (RX (bY (l := cBd bdZ) y_i) rfl ?_))
  rintro _ _ ⟨b2, rfl, rfl⟩
  refine RZ (aD (l' := cBd ({ bdZ with div := B.div, step := B.step } : Bd)) 0 rfl rfl rfl (by rw [cBd_len hZ2]; rfl) (ones_cBd _) rfl (by rw [cBd_len hZ2, cBd_len bdZ_wf]; decide) (putZ hZ2)) rfl (ZBM ?_)
  refine DR [] (pln [0, 2, 4, 6, 9]) ?_
  refine ZBR ?_
  refine DY rfl (fO 22 48 rfl rfl rfl rfl rfl rfl y_b y_b) rfl (ZBR ?_)
  refine DY rfl (fO 22 48 rfl rfl rfl rfl rfl rfl y_b y_b) rfl (DZ rfl (aMt (l' := cBd (offB B)) (m := 26) (ys := (B.regs.drop 22).map (.int .u8)) 0 rfl rfl rfl rfl rfl (fun w hw => Src.row (s := 1) b0 22 26 26 ((B.regs.drop 22).map (.int .u8)) (by simp [hB.lR]) (aLr (aA (b := b0) (l := cBd B) m_m w hw))) (jF _ _) (by rw [cBd_len hZ2]; decide) (aPr hB)) rfl n_h (ZDf ?_))
  refine RZ (aL rfl rfl y_dh (aA (b := b2) (l := cBd (offB B)) m_m)) rfl (RZ (aD (l' := cBd (offB B)) 1 rfl rfl rfl y_dh (ones_cBd _) rfl (by rw [cBd_len hB.off.ln, cBd_len bdZ_wf]; decide) (putZ hB.off.ln)) rfl (ZBM ?_))
  exact aF (fun w hw => aU rfl rfl y_dh (aA (b := b1) (l := cBd (offB B)) m_m w hw)) ⟨rfl, by rw [show on = false by simpa using q0]; rfl⟩
 refine ZBx ?_
 refine RZ (aH rfl rfl (aT (v := .bool B.on) m_m (cBd_on hB))) rfl (ZAn ?_)
 refine KC (fun q1 z1 => ?_) (fun q1 z1 => ?_)
 ·refine ZAn ?_
  refine RZ (aD (l' := cBd (({ B with div := 0 } : Bd))) 1 rfl rfl rfl rfl rfl rfl y_T (zE hB _)) rfl (ZAC ?_)
  refine ZBR ?_
  refine RZ (aD (l' := cBd (({ B with div := 0, step := 0 } : Bd))) 1 rfl rfl rfl rfl rfl rfl (by rw [cBd_len hN0]; simp only [Lc_, ar]; omega) (putBd_step hN0 _)) rfl (ZAC ?_)
  refine ZB6 ?_
  refine RZ (aD (l' := cBd (({ B with div := 0, step := 0, on := true } : Bd))) 1 rfl rfl rfl rfl rfl rfl (by rw [cBd_len hN1]; simp only [Lc_, ar]; omega) (aFJ hN1 _)) rfl (ZDf ?_)
  refine RZ (aL rfl rfl y_dg (aA (b := b0) (l := cBd ({ B with div := 0, step := 0, on := true } : Bd)) m_m)) rfl (RZ (aD (l' := cBd ({ B with div := 0, step := 0, on := true } : Bd)) 0 rfl rfl rfl (by rw [cBd_len hN2]; rfl) (ones_cBd _) rfl (by rw [cBd_len hN2, cBd_len bdZ_wf]; decide) (putZ hN2)) rfl (ZBM ?_))
  exact aF (fun w hw => aU rfl rfl (by rw [cBd_len hN2]; rfl) (aA (b := b1) (l := cBd ({ B with div := 0, step := 0, on := true } : Bd)) m_m w hw)) ⟨rfl, by rw [show on = true by simpa using q0, if_pos rfl]; unfold onB; rw [if_neg (by rw [show B.on = false by simpa using q1]; decide)]⟩
 refine ZB6 ?_
 refine RZ (aD (l' := cBd (({ B with on := true } : Bd))) 1 rfl rfl rfl rfl rfl rfl y_T (aFJ hB _)) rfl (ZDf ?_)
 refine RZ (aL rfl rfl y_dg (aA (b := b0) (l := cBd ({ B with on := true } : Bd)) m_m)) rfl (RZ (aD (l' := cBd ({ B with on := true } : Bd)) 0 rfl rfl rfl (by rw [cBd_len hN3]; rfl) (ones_cBd _) rfl (by rw [cBd_len hN3, cBd_len bdZ_wf]; decide) (putZ hN3)) rfl (ZBM ?_))
 have hon : B.on = true := by simpa using q1
 exact aF (fun w hw => aU rfl rfl (by rw [cBd_len hN3]; rfl) (aA (b := b1) (l := cBd ({ B with on := true } : Bd)) m_m w hw)) ⟨rfl, by rw [show on = true by simpa using q0, if_pos rfl]; unfold onB; rw [if_pos hon, ← hon]⟩
set_option maxHeartbeats 2000000 in
def aBz (B : Bd) (hB : B.Wf) (n x : Int) (hx : 0 ≤ x ∧ x < 256) (w : AI) : aC prog 203 [.agg (cBd B).toArray, .int .i64 n, .int .u8 x] w [] (V_ (.agg (cBd (writeBd n x B)).toArray)) := by
 refine dR_ func203 ?_
 refine ZEE ?_
 refine ZBz fun b0 => ?_
 refine RX (bY (l := cBd bdZ) y_i) rfl ?_
 rintro _ _ ⟨b1, rfl, rfl⟩
 refine ZDR ?_
 refine KL (fun q0 z0 => ?_) (fun q0 z0 => ?_)
 ·refine A_8 ?_
  refine ZA3 ?_
  exact ZDB
 refine ZBx ?_
 refine KC (fun q1 z1 => ?_) (fun q1 z1 => ?_)
 ·refine ZAn ?_
  refine ZA3 ?_
  exact ZDB
 refine ZB2 ?_
 refine KC (fun q2 z2 => ?_) (fun q2 z2 => ?_)
 ·refine ZAn ?_
  refine RZ (aL rfl rfl y_bj (aA (b := b0) (l := cBd B) m_m)) rfl (ZBR ?_)
  refine ZDy ?_
  refine RW (v := (.bool (decide (x / 128 = 1)))) rfl rfl (cA_ Value.bool y_bT) (RLv K_ (wQ_ (aEL B hB _)) ?_)
  refine RZ (aD (l' := cBd (if decide (x / 128 = 1) = true then onB B else offB B)) 0 rfl rfl rfl y_b9 (ones_cBd _) rfl (by rw [cBd_len (show (if decide (x / 128 = 1) = true then onB B else offB B).Wf by split; exact hB.onW; exact hB.off), cBd_len bdZ_wf]; decide) (putZ (show (if decide (x / 128 = 1) = true then onB B else offB B).Wf by split; exact hB.onW; exact hB.off))) rfl (ZBM ?_)
  exact aF (fun w hw => aU rfl rfl y_b9 (aA (b := b1) (l := cBd (if decide (x / 128 = 1) = true then onB B else offB B)) m_m w hw)) ⟨rfl, by rw [show writeBd n x B = (if x / 128 = 1 then onB B else offB B) from by unfold writeBd; rw [if_neg o_m, if_pos o_m]]; simp only [decide_eq_true_eq]⟩
 refine ZBR ?_
 have hon9 : B.on = B.on := rfl
 rcases hon9 : B.on with _ | _
 ·refine ZDD ?_
  refine ZA1 ?_
  refine ZB2 ?_
  refine KC (fun q3 z3 => ?_) (fun q3 z3 => ?_)
  ·refine ZAn ?_
   refine ZA3 ?_
   refine ZBM ?_
   exact aF (fun w hw => aU rfl rfl y_bj (aA (b := b1) (l := cBd B) m_m w hw)) ⟨rfl, by unfold writeBd; rw [if_neg o_m, if_neg o_m, if_pos ⟨hon9, y_B⟩]⟩
  refine ZAn ?_
  obtain ⟨k, rfl⟩ : ∃ k : Nat, n = k := ⟨n.toNat, y_B⟩
  have hPK : (putB k x B).Wf := hB.put k hx
  refine ZB6 ?_
  refine ZEJ ?_
  refine ZAC ?_
  refine ZDR ?_
  refine KC (fun q4 z4 => ?_) (fun q4 z4 => ?_)
  ·refine ZAn ?_
   refine RZ (aL rfl rfl y_by (aA (b := b0) (l := cBd (putB k x B)) m_m)) rfl (ZCv ?_)
   exact aF (fun w hw => aU rfl rfl y_by (aA (b := b1) (l := cBd (putB k x B)) m_m w hw)) ⟨rfl, y_eh⟩
  refine ZD2 ?_
  refine ZB6 ?_
  have hv9 := hPK.v_ (k / 5)
  have hlg : longest (k / 5) = 64 ∨ longest (k / 5) = 256 := by unfold longest; split <;> simp
  have hm9 := eq x (show 0 < longest (k / 5) by omega)
  have hm8 := eh x (show longest (k / 5) ≠ 0 by omega)
  refine ZB8 fun hWL hWO => ?_
  refine ZAn ?_
  refine ZBU ?_
  refine ZDR ?_
  refine KC (fun q5 z5 => ?_) (fun q5 z5 => ?_)
  ·refine ZBB ?_
   refine RLv K_ (wQ_ (pH (k / 5))) ?_
   refine ZD7 ?_
   refine ZBR ?_
   refine RLv K_ (wQ_ (pH (k / 5))) ?_
   refine RW (v := (.int .i64 (x % longest (k / 5)))) (kE rfl rfl o_m) rfl (cA_ _ (Int.tmod_eq_emod_of_nonneg o_m)) (ZBT ?_)
   refine ZBR ?_
   refine ZBo ?_
   refine ZBR ?_
   refine RZ (aD (l' := cBd (((putB k x B).setV (k / 5) { ((putB k x B).v (k / 5)) with len := longest (k / 5) - x % longest (k / 5) }))) 1 rfl rfl rfl rfl rfl rfl y_bc (putBd_v hPK (k := 1) o_m y_b rfl)) rfl (ZDf ?_)
   refine RZ (aL rfl rfl y_u (aA (b := b0) (l := cBd ((putB k x B).setV (k / 5) { ((putB k x B).v (k / 5)) with len := longest (k / 5) - x % longest (k / 5) })) m_m)) rfl (RZ (aD (l' := cBd ((putB k x B).setV (k / 5) { ((putB k x B).v (k / 5)) with len := longest (k / 5) - x % longest (k / 5) })) 0 rfl rfl rfl y_cW (ones_cBd _) rfl (by rw [cBd_len hWL, cBd_len bdZ_wf]; decide) (putZ hWL)) rfl (ZBM ?_))
   exact aF (fun w hw => aU rfl rfl y_cW (aA (b := b1) (l := cBd ((putB k x B).setV (k / 5) { ((putB k x B).v (k / 5)) with len := longest (k / 5) - x % longest (k / 5) })) m_m w hw)) ⟨rfl, y_d6⟩
  refine ZBx ?_
  refine KC (fun q6 z6 => ?_) (fun q6 z6 => ?_)
  ·refine ZBB ?_
   refine ZDy ?_
   refine ZAn ?_
   refine KC (fun q7 z7 => ?_) (fun q7 z7 => ?_)
   ·refine ZCS ?_
    refine ZAF ?_
    refine ZBB ?_
    refine ZCf ?_
    refine ZBM ?_
    exact aF (fun w hw => aU rfl rfl y_b6 (aA (b := b1) (l := cBd (beginB (k / 5) (putB k x B))) m_m w hw)) ⟨rfl, by unfold writeBd; rw [if_neg o_m, if_neg o_m, if_neg y_cD, if_neg o_m, bj]; unfold voiceB; rw [if_neg o_m, if_pos o_m, if_pos o_m]⟩
   refine ZBB ?_
   refine RZ (aL rfl rfl y_u (aA (b := b0) (l := cBd (putB k x B)) m_m)) rfl (ZCv ?_)
   exact aF (fun w hw => aU rfl rfl y_by (aA (b := b1) (l := cBd (putB k x B)) m_m w hw)) ⟨rfl, by unfold writeBd; rw [if_neg o_m, if_neg o_m, if_neg y_cD, if_neg o_m, bj]; unfold voiceB; rw [if_neg o_m, if_pos o_m, if_neg o_m]⟩
  refine ZB6 ?_
  refine ZBo ?_
  refine ZBR ?_
  refine RZ (aH rfl rfl (aT (v := .bool ((putB k x B).v (k / 5)).on) m_m (oJ hPK (k := 0) o_m rfl))) rfl (KL (fun q7 z7 => ?_) (fun q7 z7 => ?_))
  ·refine ZEa ?_
   refine RW (v := (.bool (((putB k x B).v (k / 5)).on && readyB (k / 5) (putB k x B)))) rfl rfl (by rw [show ((putB k x B).v (k / 5)).on = true from q7]; rfl) (ZBR ?_)
   refine ZBo ?_
   refine ZAQ ?_
   refine ZDf ?_
   refine ZAK ?_
   exact ZCL
  refine ZAn ?_
  refine RW (v := (.bool (((putB k x B).v (k / 5)).on && readyB (k / 5) (putB k x B)))) rfl rfl (by rw [show ((putB k x B).v (k / 5)).on = false from q7]; rfl) (ZBR ?_)
  refine ZBo ?_
  refine ZAQ ?_
  refine ZDf ?_
  refine ZAK ?_
  exact ZCL
 refine ZDH ?_
 refine ZAY ?_
 refine A_9 ?_
 obtain ⟨k, rfl⟩ : ∃ k : Nat, n = k := ⟨n.toNat, y_B⟩
 have hPK : (putB k x B).Wf := hB.put k hx
 refine ZB6 ?_
 refine ZEJ ?_
 refine ZAC ?_
 refine ZDR ?_
 refine KC (fun q3 z3 => ?_) (fun q3 z3 => ?_)
 ·refine ZAn ?_
  refine RZ (aL rfl rfl y_by (aA (b := b0) (l := cBd (putB k x B)) m_m)) rfl (ZCv ?_)
  exact aF (fun w hw => aU rfl rfl y_by (aA (b := b1) (l := cBd (putB k x B)) m_m w hw)) ⟨rfl, y_eh⟩
 refine ZD2 ?_
 refine ZB6 ?_
 have hv9 := hPK.v_ (k / 5)
 have hlg : longest (k / 5) = 64 ∨ longest (k / 5) = 256 := by unfold longest; split <;> simp
 have hm9 := eq x (show 0 < longest (k / 5) by omega)
 have hm8 := eh x (show longest (k / 5) ≠ 0 by omega)
 refine ZB8 fun hWL hWO => ?_
 refine ZAn ?_
 refine ZBU ?_
 refine ZDR ?_
 refine KC (fun q4 z4 => ?_) (fun q4 z4 => ?_)
 ·refine ZBB ?_
  refine RLv K_ (wQ_ (pH (k / 5))) ?_
  refine ZD7 ?_
  refine ZBR ?_
  refine RLv K_ (wQ_ (pH (k / 5))) ?_
  refine RW (v := (.int .i64 (x % longest (k / 5)))) (kE rfl rfl o_m) rfl (cA_ _ (Int.tmod_eq_emod_of_nonneg o_m)) (ZBT ?_)
  refine ZBR ?_
  refine ZBo ?_
  refine ZBR ?_
  refine RZ (aD (l' := cBd (((putB k x B).setV (k / 5) { ((putB k x B).v (k / 5)) with len := longest (k / 5) - x % longest (k / 5) }))) 1 rfl rfl rfl rfl rfl rfl y_bc (putBd_v hPK (k := 1) o_m y_b rfl)) rfl (ZDf ?_)
  refine RZ (aL rfl rfl y_u (aA (b := b0) (l := cBd ((putB k x B).setV (k / 5) { ((putB k x B).v (k / 5)) with len := longest (k / 5) - x % longest (k / 5) })) m_m)) rfl (RZ (aD (l' := cBd ((putB k x B).setV (k / 5) { ((putB k x B).v (k / 5)) with len := longest (k / 5) - x % longest (k / 5) })) 0 rfl rfl rfl y_cW (ones_cBd _) rfl (by rw [cBd_len hWL, cBd_len bdZ_wf]; decide) (putZ hWL)) rfl (ZBM ?_))
  exact aF (fun w hw => aU rfl rfl y_cW (aA (b := b1) (l := cBd ((putB k x B).setV (k / 5) { ((putB k x B).v (k / 5)) with len := longest (k / 5) - x % longest (k / 5) })) m_m w hw)) ⟨rfl, y_d6⟩
 refine ZBx ?_
 refine KC (fun q5 z5 => ?_) (fun q5 z5 => ?_)
 ·refine ZBB ?_
  refine ZDy ?_
  refine ZAn ?_
  refine KC (fun q6 z6 => ?_) (fun q6 z6 => ?_)
  ·refine ZCS ?_
   refine ZAF ?_
   refine ZBB ?_
   refine ZCf ?_
   refine ZBM ?_
   exact aF (fun w hw => aU rfl rfl y_b6 (aA (b := b1) (l := cBd (beginB (k / 5) (putB k x B))) m_m w hw)) ⟨rfl, by unfold writeBd; rw [if_neg o_m, if_neg o_m, if_neg y_K, if_neg o_m, bj]; unfold voiceB; rw [if_neg o_m, if_pos o_m, if_pos o_m]⟩
  refine ZBB ?_
  refine RZ (aL rfl rfl y_u (aA (b := b0) (l := cBd (putB k x B)) m_m)) rfl (ZCv ?_)
  exact aF (fun w hw => aU rfl rfl y_by (aA (b := b1) (l := cBd (putB k x B)) m_m w hw)) ⟨rfl, by unfold writeBd; rw [if_neg o_m, if_neg o_m, if_neg y_K, if_neg o_m, bj]; unfold voiceB; rw [if_neg o_m, if_pos o_m, if_neg o_m]⟩
 refine ZB6 ?_
 refine ZBo ?_
 refine ZBR ?_
 refine RZ (aH rfl rfl (aT (v := .bool ((putB k x B).v (k / 5)).on) m_m (oJ hPK (k := 0) o_m rfl))) rfl (KL (fun q6 z6 => ?_) (fun q6 z6 => ?_))
 ·refine ZEa ?_
  refine RW (v := (.bool (((putB k x B).v (k / 5)).on && readyB (k / 5) (putB k x B)))) rfl rfl (by rw [show ((putB k x B).v (k / 5)).on = true from q6]; rfl) (ZBR ?_)
  refine ZBo ?_
  refine ZAQ ?_
  refine ZDf ?_
  refine ZAK ?_
  exact ZCM
 refine ZAn ?_
 refine RW (v := (.bool (((putB k x B).v (k / 5)).on && readyB (k / 5) (putB k x B)))) rfl rfl (by rw [show ((putB k x B).v (k / 5)).on = false from q6]; rfl) (ZBR ?_)
 refine ZBo ?_
 refine ZAQ ?_
 refine ZDf ?_
 refine ZAK ?_
 exact ZCM
def uJ (w : AI) : aC prog 204 [] w [] (V_ (.agg (sG.map U_).toArray)) := by
 refine dR_ func204 ?_
 refine ZAn ?_
 refine ZAt fun b0 => ?_
 refine ZBB ?_
 refine RY (jW (l := [.int .u8 128, .int .u8 63, .int .u8 0, .int .u8 255, .int .u8 191, .int .u8 255, .int .u8 63, .int .u8 0, .int .u8 255, .int .u8 191, .int .u8 127, .int .u8 255, .int .u8 159, .int .u8 255, .int .u8 191, .int .u8 255, .int .u8 255, .int .u8 0, .int .u8 0, .int .u8 191, .int .u8 0, .int .u8 0, .int .u8 112]) (z := [.int .u8 0, .int .u8 0, .int .u8 0, .int .u8 0, .int .u8 0, .int .u8 0, .int .u8 0, .int .u8 0, .int .u8 0, .int .u8 0, .int .u8 0, .int .u8 0, .int .u8 0, .int .u8 0, .int .u8 0, .int .u8 0, .int .u8 0, .int .u8 0, .int .u8 0, .int .u8 0, .int .u8 0, .int .u8 0, .int .u8 0]) (ps := [(0, .int .u8 128), (1, .int .u8 63), (2, .int .u8 0), (3, .int .u8 255), (4, .int .u8 191), (5, .int .u8 255), (6, .int .u8 63), (7, .int .u8 0), (8, .int .u8 255), (9, .int .u8 191), (10, .int .u8 127), (11, .int .u8 255), (12, .int .u8 159), (13, .int .u8 255), (14, .int .u8 191), (15, .int .u8 255), (16, .int .u8 255), (17, .int .u8 0), (18, .int .u8 0), (19, .int .u8 191), (20, .int .u8 0), (21, .int .u8 0), (22, .int .u8 112)]) rfl rfl rfl y_i) rfl (ZAI ?_)
 exact aF (fun w hw => aU rfl rfl rfl (aA (b := b0) (l := sG.map U_) m_m w hw)) ⟨rfl, rfl⟩
def aCS (B : Bd) (hB : B.Wf) (n : Int) (w : AI) : aC prog 202 [.agg (cBd B).toArray, .int .i64 n] w [] (V_ (.int .u8 (readB n B))) := by
 refine dR_ func202 ?_
 refine ZEE ?_
 refine ZBz fun b0 => ?_
 refine A_8 ?_
 refine KL (fun q0 z0 => ?_) (fun q0 z0 => ?_)
 ·refine A_19 ?_
  exact E0 rfl ⟨rfl, y_cF⟩
 refine ZBB ?_
 refine KL (fun q1 z1 => ?_) (fun q1 z1 => ?_)
 ·refine A_15 ?_
  exact E0 rfl ⟨rfl, y_cF⟩
 refine ZAn ?_
 refine KL (fun q2 z2 => ?_) (fun q2 z2 => ?_)
 ·refine ZB2 ?_
  refine KC (fun q3 z3 => ?_) (fun q3 z3 => ?_)
  ·refine ZBx ?_
   exact E0 rfl ⟨rfl, y_cF⟩
  refine ZBR ?_
  obtain ⟨k, rfl⟩ : ∃ k : Nat, n = k := ⟨n.toNat, y_B⟩
  refine ZBx ?_
  refine KC (fun q4 z4 => ?_) (fun q4 z4 => ?_)
  ·refine ZB6 ?_
   refine RY (aM k rfl rfl rfl o_m o_m) rfl (RZ (aH rfl rfl (aT m_m y_bZ)) rfl (ZBB ?_))
   exact E0 rfl ⟨rfl, y_c5⟩
  refine ZB2 ?_
  refine KC (fun q5 z5 => ?_) (fun q5 z5 => ?_)
  ·refine ZBR ?_
   refine DR [4, 5, 6] (pln [0, 2, 4, 6, 10, 9, 12, 14, 16]) ?_
   refine ZAn ?_
   refine DY rfl (aM k rfl rfl rfl o_m o_m) rfl (DL rfl rfl rfl (cZ m_m y_bZ) rfl (ZBR ?_))
   refine DZ rfl (aZ K_ rfl (wQ_ uJ)) rfl y_c (DY rfl (qO (l := sG.map U_) k rfl rfl rfl rfl rfl rfl o_m (dL (by show k < 23; omega)) rfl) rfl (DW rfl (cM rfl rfl) rfl rfl (ZBB ?_)))
   exact E0 rfl ⟨rfl, y_cL⟩
  refine ZBB ?_
  refine RLv K_ (wQ_ uJ) ?_
  refine ZBR ?_
  refine RY (qO (l := sG.map U_) 22 rfl rfl rfl rfl rfl o_m o_m rfl rfl) rfl (ZB6 ?_)
  rcases hon9 : B.on with _ | _
  ·refine ZDD ?_
   refine ZBR ?_
   refine fK false rfl rfl ?_
   refine ZBx ?_
   refine ZBp ?_
   refine bG (σ := Nat) [5, 6, 7, 50, 51, 52, 53, 54, 55, 56, 57, 58, 59, 60] (fun i => [(5, .int .u8 (onV B i)), (50, .int .i64 i)]) (fun _ => [(b0, blk (cBd B) 121)]) (fun i => i ≤ 4) (fun i => 4 - i) 0 ?_ ?_ ?_ ?_
   ·exact aj _
   ·exact .cons y_cG (.cons rfl .nil)
   ·exact fun _ h => h
   rintro i y11 hi
   refine ZBx ?_
   refine KC (fun q6 z6 => ?_) (fun q6 z6 => ?_)
   ·refine ZB2 ?_
    refine RY (qJ (l := aE cVc B.vs) (c := cVc (B.v i)) i rfl rfl rfl rfl rfl rfl o_m (qY B.vs i y_di)) rfl (ZAR fun b1 => ?_)
    refine ZAy ?_
    refine ZB6 ?_
    refine RZ (aH rfl rfl (aT (v := .bool (B.v i).on) m_m rfl)) rfl (ZBR ?_)
    refine KC (fun q7 z7 => ?_) (fun q7 z7 => ?_)
    ·rcases (show i = 0 ∨ i = 1 ∨ i = 2 ∨ i = 3 by omega) with rfl | rfl | rfl | rfl
     ·refine ZCK ?_
      refine RW (v := (.int .u8 (onV B (0 + 1)))) (cM rfl rfl) rfl (cA_ U_ (kC B (n := 0) y_b q7)) ?_
      refine ZBB ?_
      exact RW (v := (.int .i64 ((0 + 1 : Nat) : Int))) rfl rfl (cA_ _ (bB o_m)) ZET
     ·refine ZCK ?_
      refine RW (v := (.int .u8 (onV B (1 + 1)))) (cM rfl rfl) rfl (cA_ U_ (kC B (n := 1) y_b q7)) ?_
      refine ZBB ?_
      exact RW (v := (.int .i64 ((1 + 1 : Nat) : Int))) rfl rfl (cA_ _ (bB o_m)) ZEU
     ·refine ZCK ?_
      refine RW (v := (.int .u8 (onV B (2 + 1)))) (cM rfl rfl) rfl (cA_ U_ (kC B (n := 2) y_b q7)) ?_
      refine ZBB ?_
      exact RW (v := (.int .i64 ((2 + 1 : Nat) : Int))) rfl rfl (cA_ _ (bB o_m)) ZEV
     refine ZCK ?_
     refine RW (v := (.int .u8 (onV B (3 + 1)))) (cM rfl rfl) rfl (cA_ U_ (kC B (n := 3) y_b q7)) ?_
     refine ZBB ?_
     exact RW (v := (.int .i64 ((3 + 1 : Nat) : Int))) rfl rfl (cA_ _ (bB o_m)) ZEW
    refine ZAn ?_
    refine ZAD ?_
    exact ⟨i + 1, y_B, y_B, .cons (cA_ U_ (aBR B q7)) (.cons rfl .nil), a_g, fun _ h => h.sub (.cons _ sR_)⟩
   refine ZDR ?_
   exact ZC7
  refine ZDH ?_
  refine ZBR ?_
  refine fK true rfl rfl ?_
  refine ZAn ?_
  refine RW (v := (.int .u8 240)) (cM rfl rfl) rfl (cA_ U_ (show bor .u8 112 128 = 240 by decide)) ?_
  refine ZB2 ?_
  refine ZBp ?_
  refine bG (σ := Nat) [5, 6, 7, 50, 51, 52, 53, 54, 55, 56, 57, 58, 59, 60] (fun i => [(5, .int .u8 (onV B i)), (50, .int .i64 i)]) (fun _ => [(b0, blk (cBd B) 121)]) (fun i => i ≤ 4) (fun i => 4 - i) 0 ?_ ?_ ?_ ?_
  ·exact aj _
  ·exact .cons y_cG (.cons rfl .nil)
  ·exact fun _ h => h
  rintro i y11 hi
  refine ZBx ?_
  refine KC (fun q6 z6 => ?_) (fun q6 z6 => ?_)
  ·refine ZB2 ?_
   refine RY (qJ (l := aE cVc B.vs) (c := cVc (B.v i)) i rfl rfl rfl rfl rfl rfl o_m (qY B.vs i y_di)) rfl (ZAR fun b1 => ?_)
   refine ZAy ?_
   refine ZB6 ?_
   refine RZ (aH rfl rfl (aT (v := .bool (B.v i).on) m_m rfl)) rfl (ZBR ?_)
   refine KC (fun q7 z7 => ?_) (fun q7 z7 => ?_)
   ·rcases (show i = 0 ∨ i = 1 ∨ i = 2 ∨ i = 3 by omega) with rfl | rfl | rfl | rfl
    ·refine ZCK ?_
     refine RW (v := (.int .u8 (onV B (0 + 1)))) (cM rfl rfl) rfl (cA_ U_ (kC B (n := 0) y_b q7)) ?_
     refine ZBB ?_
     exact RW (v := (.int .i64 ((0 + 1 : Nat) : Int))) rfl rfl (cA_ _ (bB o_m)) ZET
    ·refine ZCK ?_
     refine RW (v := (.int .u8 (onV B (1 + 1)))) (cM rfl rfl) rfl (cA_ U_ (kC B (n := 1) y_b q7)) ?_
     refine ZBB ?_
     exact RW (v := (.int .i64 ((1 + 1 : Nat) : Int))) rfl rfl (cA_ _ (bB o_m)) ZEU
    ·refine ZCK ?_
     refine RW (v := (.int .u8 (onV B (2 + 1)))) (cM rfl rfl) rfl (cA_ U_ (kC B (n := 2) y_b q7)) ?_
     refine ZBB ?_
     exact RW (v := (.int .i64 ((2 + 1 : Nat) : Int))) rfl rfl (cA_ _ (bB o_m)) ZEV
    refine ZCK ?_
    refine RW (v := (.int .u8 (onV B (3 + 1)))) (cM rfl rfl) rfl (cA_ U_ (kC B (n := 3) y_b q7)) ?_
    refine ZBB ?_
    exact RW (v := (.int .i64 ((3 + 1 : Nat) : Int))) rfl rfl (cA_ _ (bB o_m)) ZEW
   refine ZAn ?_
   refine ZAD ?_
   exact ⟨i + 1, y_B, y_B, .cons (cA_ U_ (aBR B q7)) (.cons rfl .nil), a_g, fun _ h => h.sub (.cons _ sR_)⟩
  refine ZDR ?_
  exact ZC7
 refine A_8 ?_
 obtain ⟨k, rfl⟩ : ∃ k : Nat, n = k := ⟨n.toNat, y_B⟩
 refine ZBx ?_
 refine KC (fun q3 z3 => ?_) (fun q3 z3 => ?_)
 ·refine ZB6 ?_
  refine RY (aM k rfl rfl rfl o_m o_m) rfl (RZ (aH rfl rfl (aT m_m y_bZ)) rfl (ZBB ?_))
  exact E0 rfl ⟨rfl, y_c5⟩
 refine ZB2 ?_
 refine KC (fun q4 z4 => ?_) (fun q4 z4 => ?_)
 ·refine ZBR ?_
  refine DR [4, 5, 6] (pln [0, 2, 4, 6, 10, 9, 12, 14, 16]) ?_
  refine ZAn ?_
  refine DY rfl (aM k rfl rfl rfl o_m o_m) rfl (DL rfl rfl rfl (cZ m_m y_bZ) rfl (ZBR ?_))
  refine DZ rfl (aZ K_ rfl (wQ_ uJ)) rfl y_c (DY rfl (qO (l := sG.map U_) k rfl rfl rfl rfl rfl rfl o_m (dL (by show k < 23; omega)) rfl) rfl (DW rfl (cM rfl rfl) rfl rfl (ZBB ?_)))
  exact E0 rfl ⟨rfl, y_cL⟩
 refine ZBB ?_
 refine RLv K_ (wQ_ uJ) ?_
 refine ZBR ?_
 refine RY (qO (l := sG.map U_) 22 rfl rfl rfl rfl rfl o_m o_m rfl rfl) rfl (ZB6 ?_)
 rcases hon9 : B.on with _ | _
 ·refine ZDD ?_
  refine ZBR ?_
  refine fK false rfl rfl ?_
  refine ZBx ?_
  refine ZBp ?_
  refine bG (σ := Nat) [5, 6, 7, 50, 51, 52, 53, 54, 55, 56, 57, 58, 59, 60] (fun i => [(5, .int .u8 (onV B i)), (50, .int .i64 i)]) (fun _ => [(b0, blk (cBd B) 121)]) (fun i => i ≤ 4) (fun i => 4 - i) 0 ?_ ?_ ?_ ?_
  ·exact aj _
  ·exact .cons y_cG (.cons rfl .nil)
  ·exact fun _ h => h
  rintro i y11 hi
  refine ZBx ?_
  refine KC (fun q5 z5 => ?_) (fun q5 z5 => ?_)
  ·refine ZB2 ?_
   refine RY (qJ (l := aE cVc B.vs) (c := cVc (B.v i)) i rfl rfl rfl rfl rfl rfl o_m (qY B.vs i y_di)) rfl (ZAR fun b1 => ?_)
   refine ZAy ?_
   refine ZB6 ?_
   refine RZ (aH rfl rfl (aT (v := .bool (B.v i).on) m_m rfl)) rfl (ZBR ?_)
   refine KC (fun q6 z6 => ?_) (fun q6 z6 => ?_)
   ·rcases (show i = 0 ∨ i = 1 ∨ i = 2 ∨ i = 3 by omega) with rfl | rfl | rfl | rfl
    ·refine ZCK ?_
     refine RW (v := (.int .u8 (onV B (0 + 1)))) (cM rfl rfl) rfl (cA_ U_ (kC B (n := 0) y_b q6)) ?_
     refine ZBB ?_
     exact RW (v := (.int .i64 ((0 + 1 : Nat) : Int))) rfl rfl (cA_ _ (bB o_m)) ZET
    ·refine ZCK ?_
     refine RW (v := (.int .u8 (onV B (1 + 1)))) (cM rfl rfl) rfl (cA_ U_ (kC B (n := 1) y_b q6)) ?_
     refine ZBB ?_
     exact RW (v := (.int .i64 ((1 + 1 : Nat) : Int))) rfl rfl (cA_ _ (bB o_m)) ZEU
    ·refine ZCK ?_
     refine RW (v := (.int .u8 (onV B (2 + 1)))) (cM rfl rfl) rfl (cA_ U_ (kC B (n := 2) y_b q6)) ?_
     refine ZBB ?_
     exact RW (v := (.int .i64 ((2 + 1 : Nat) : Int))) rfl rfl (cA_ _ (bB o_m)) ZEV
    refine ZCK ?_
    refine RW (v := (.int .u8 (onV B (3 + 1)))) (cM rfl rfl) rfl (cA_ U_ (kC B (n := 3) y_b q6)) ?_
    refine ZBB ?_
    exact RW (v := (.int .i64 ((3 + 1 : Nat) : Int))) rfl rfl (cA_ _ (bB o_m)) ZEW
   refine ZAn ?_
   refine ZAD ?_
   exact ⟨i + 1, y_B, y_B, .cons (cA_ U_ (aBR B q6)) (.cons rfl .nil), a_g, fun _ h => h.sub (.cons _ sR_)⟩
  refine ZDR ?_
  exact ZC7
 refine ZDH ?_
 refine ZBR ?_
 refine fK true rfl rfl ?_
 refine ZAn ?_
 refine RW (v := (.int .u8 240)) (cM rfl rfl) rfl (cA_ U_ (show bor .u8 112 128 = 240 by decide)) ?_
 refine ZB2 ?_
 refine ZBp ?_
 refine bG (σ := Nat) [5, 6, 7, 50, 51, 52, 53, 54, 55, 56, 57, 58, 59, 60] (fun i => [(5, .int .u8 (onV B i)), (50, .int .i64 i)]) (fun _ => [(b0, blk (cBd B) 121)]) (fun i => i ≤ 4) (fun i => 4 - i) 0 ?_ ?_ ?_ ?_
 ·exact aj _
 ·exact .cons y_cG (.cons rfl .nil)
 ·exact fun _ h => h
 rintro i y11 hi
 refine ZBx ?_
 refine KC (fun q5 z5 => ?_) (fun q5 z5 => ?_)
 ·refine ZB2 ?_
  refine RY (qJ (l := aE cVc B.vs) (c := cVc (B.v i)) i rfl rfl rfl rfl rfl rfl o_m (qY B.vs i y_di)) rfl (ZAR fun b1 => ?_)
  refine ZAy ?_
  refine ZB6 ?_
  refine RZ (aH rfl rfl (aT (v := .bool (B.v i).on) m_m rfl)) rfl (ZBR ?_)
  refine KC (fun q6 z6 => ?_) (fun q6 z6 => ?_)
  ·rcases (show i = 0 ∨ i = 1 ∨ i = 2 ∨ i = 3 by omega) with rfl | rfl | rfl | rfl
   ·refine ZCK ?_
    refine RW (v := (.int .u8 (onV B (0 + 1)))) (cM rfl rfl) rfl (cA_ U_ (kC B (n := 0) y_b q6)) ?_
    refine ZBB ?_
    exact RW (v := (.int .i64 ((0 + 1 : Nat) : Int))) rfl rfl (cA_ _ (bB o_m)) ZET
   ·refine ZCK ?_
    refine RW (v := (.int .u8 (onV B (1 + 1)))) (cM rfl rfl) rfl (cA_ U_ (kC B (n := 1) y_b q6)) ?_
    refine ZBB ?_
    exact RW (v := (.int .i64 ((1 + 1 : Nat) : Int))) rfl rfl (cA_ _ (bB o_m)) ZEU
   ·refine ZCK ?_
    refine RW (v := (.int .u8 (onV B (2 + 1)))) (cM rfl rfl) rfl (cA_ U_ (kC B (n := 2) y_b q6)) ?_
    refine ZBB ?_
    exact RW (v := (.int .i64 ((2 + 1 : Nat) : Int))) rfl rfl (cA_ _ (bB o_m)) ZEV
   refine ZCK ?_
   refine RW (v := (.int .u8 (onV B (3 + 1)))) (cM rfl rfl) rfl (cA_ U_ (kC B (n := 3) y_b q6)) ?_
   refine ZBB ?_
   exact RW (v := (.int .i64 ((3 + 1 : Nat) : Int))) rfl rfl (cA_ _ (bB o_m)) ZEW
  refine ZAn ?_
  refine ZAD ?_
  exact ⟨i + 1, y_B, y_B, .cons (cA_ U_ (aBR B q6)) (.cons rfl .nil), a_g, fun _ h => h.sub (.cons _ sR_)⟩
 refine ZDR ?_
 exact ZC7
def uS (a : Int) (ha : 0 ≤ a ∧ a < 65536) (w : AI) : aC prog 242 [.int .u16 a] w [] (V_ (.bool (pictured a))) := by
 refine dR_ func242 ?_
 refine A_8 ?_
 refine KL (fun q0 z0 => ?_) (fun q0 z0 => ?_)
 ·refine ZBB ?_
  refine KL (fun q1 z1 => ?_) (fun q1 z1 => ?_)
  ·refine A_22 ?_
   exact E0 rfl ⟨rfl, (cA_ Value.bool y_k)⟩
  refine ZAn ?_
  refine KL (fun q2 z2 => ?_) (fun q2 z2 => ?_)
  ·refine ZB6 ?_
   refine KL (fun q3 z3 => ?_) (fun q3 z3 => ?_)
   ·refine A_14 ?_
    exact E0 rfl ⟨rfl, (cA_ Value.bool y_k)⟩
   refine ZAn ?_
   refine KL (fun q4 z4 => ?_) (fun q4 z4 => ?_)
   ·refine ZBB ?_
    refine KL (fun q5 z5 => ?_) (fun q5 z5 => ?_)
    ·exact ZEX
    exact ZEX
   exact ZC8
  refine ZDR ?_
  exact ZC9
 refine ZB2 ?_
 refine KL (fun q1 z1 => ?_) (fun q1 z1 => ?_)
 ·refine ZB6 ?_
  refine KL (fun q2 z2 => ?_) (fun q2 z2 => ?_)
  ·refine A_14 ?_
   exact E0 rfl ⟨rfl, (cA_ Value.bool y_k)⟩
  refine ZAn ?_
  exact ZC9
 refine ZDR ?_
 refine KL (fun q2 z2 => ?_) (fun q2 z2 => ?_)
 ·refine ZBB ?_
  refine KL (fun q3 z3 => ?_) (fun q3 z3 => ?_)
  ·exact ZEX
  exact ZEX
 exact ZC8
def aL8 (A : Ad) (acc : AH) (m : Mm) (h : m.Wf) (w : AI) (hm : Row w A.mb 0 (cMm A acc m)) (hu : Row w A.ub 0 (cU m.u)) (hr : Row w A.rb 0 (m.ram.map (.int .u8))) (ho : Row w A.ob 0 (m.rom.map (.int .u8))) (a : Int) (ha : 0 ≤ a ∧ a < 65536) : aC prog 246 [P_ A.mb, .int .u16 a] w [] (V_ (.int .u8 (pD a m))) := by
 have hl9 := h.lRam
 refine dR_ func246 ?_
 refine ZB2 ?_
 rcases hc9 : clockB m.bk with _ | p
 ·refine ZBx ?_
  refine ZCE ?_
  refine ZEY ?_
  refine A_8 ?_
  refine ZAY ?_
  refine ZB6 ?_
  rcases hat9 : atB_ a m.bk with _ | n
  ·refine ZBx ?_
   refine ZCE ?_
   refine ZEC ?_
   rw [hat9]
   refine A_11 ?_
   refine ZA1 ?_
   refine A_8 ?_
   exact E0 rfl ⟨rfl, (by unfold pD; rw [hc9]; dsimp only; rw [hat9])⟩
  refine ZBx ?_
  refine ZCE ?_
  refine ZEC ?_
  rw [hat9]
  refine A_11 ?_
  refine ZAY ?_
  refine A_9 ?_
  refine RZ (aH rfl rfl (bF (hm _ _ (get_mid h.ln (j := 7) rfl)) y_v)) rfl (ZBB ?_)
  refine KC (fun q0 z0 => ?_) (fun q0 z0 => ?_)
  ·refine ZBx ?_
   have hn9 := aFp a hat9
   refine RZ (aH rfl rfl (bF (hm _ _ (get_mid h.ln (j := 15) rfl)) y_v)) rfl (ZBR ?_)
   refine ZES ?_
   refine ZAa ?_
   refine ZBB ?_
   exact E0 rfl ⟨rfl, (by unfold pD; rw [hc9]; dsimp only; rw [hat9]; dsimp only; rw [if_pos o_m])⟩
  refine ZB2 ?_
  have hn9 := aFp a hat9
  refine RZ (aH rfl rfl (bF (hm _ _ (get_mid h.ln (j := 15) rfl)) y_v)) rfl (ZBR ?_)
  refine ZES ?_
  refine ZBB ?_
  exact E0 rfl ⟨rfl, (by unfold pD; rw [hc9]; dsimp only; rw [hat9]; dsimp only; rw [if_neg o_m])⟩
 refine ZBx ?_
 refine ZCE ?_
 refine ZEY ?_
 refine A_8 ?_
 refine ZA1 ?_
 refine A_8 ?_
 refine RZ (aL rfl rfl rfl (fun w hw => rowM_ck (aR hm y_v w hw))) rfl (ZBR ?_)
 refine RLv K_ (wQ_ (aJZ m.ck h.ck p)) ?_
 refine ZBB ?_
 exact E0 rfl ⟨rfl, (by unfold pD; rw [hc9])⟩
def aJG (A : Ad) (acc : AH) (m : Mm) (h : m.Wf) (w : AI) (hm : Row w A.mb 0 (cMm A acc m)) (hu : Row w A.ub 0 (cU m.u)) (hr : Row w A.rb 0 (m.ram.map (.int .u8))) (ho : Row w A.ob 0 (m.rom.map (.int .u8))) (a : Int) (ha : 65280 ≤ a ∧ a < 65536) : aC prog 247 [P_ A.mb, .int .u16 a] w [] (V_ (.int .u8 (deviceM a m))) := by
 refine dR_ func247 ?_
 refine ZDR ?_
 refine ZAU ?_
 refine A_10 ?_
 refine KC (fun q0 z0 => ?_) (fun q0 z0 => ?_)
 ·refine ZB2 ?_
  refine RZ (aL rfl rfl rfl (fun w hw => aCr (aR hm y_v w hw))) rfl (RLv K_ (wQ_ (aIE m.pd)) ?_)
  exact ZCD
 refine ZB2 ?_
 refine KC (fun q1 z1 => ?_) (fun q1 z1 => ?_)
 ·refine ZB2 ?_
  refine RZ (aL rfl rfl rfl (fun w hw => aCb (aR hm y_v w hw))) rfl (ZBR ?_)
  refine ZBT ?_
  refine RLv K_ (wQ_ (aJs m.pt h.pt _)) ?_
  exact ZCD
 refine ZB6 ?_
 refine KL (fun q2 z2 => ?_) (fun q2 z2 => ?_)
 ·refine ZBx ?_
  refine KC (fun q3 z3 => ?_) (fun q3 z3 => ?_)
  ·refine ZB2 ?_
   refine RZ (aL rfl rfl rfl (fun w hw => aCy (aR hm y_v w hw))) rfl (ZBR ?_)
   refine ZBT ?_
   refine RLv K_ (wQ_ (aI4 m.tm h.tm _)) ?_
   exact ZCD
  refine ZB2 ?_
  refine KC (fun q4 z4 => ?_) (fun q4 z4 => ?_)
  ·refine ZB2 ?_
   refine RZ (aH rfl rfl (bF (hm _ _ (get_mid h.ln (j := 0) rfl)) y_v)) rfl (ZAa ?_)
   exact ZCD
  refine ZB6 ?_
  refine KL (fun q5 z5 => ?_) (fun q5 z5 => ?_)
  ·refine ZBx ?_
   refine KC (fun q6 z6 => ?_) (fun q6 z6 => ?_)
   ·refine ZB2 ?_
    refine RZ (aL rfl rfl y_cR (fun w hw => rowM_bd (aR hm y_v w hw))) rfl (ZBR ?_)
    refine ZBT ?_
    refine RLv K_ (wQ_ (aCS m.bd h.bd _)) ?_
    exact ZCD
   refine ZB2 ?_
   refine KC (fun q7 z7 => ?_) (fun q7 z7 => ?_)
   ·refine ZDR ?_
    exact RZ (aH rfl rfl (fun w hw => y_dZ)) rfl ZCD
   refine ZB2 ?_
   refine KC (fun q8 z8 => ?_) (fun q8 z8 => ?_)
   ·refine ZB2 ?_
    exact RZ (aH rfl rfl (bF (hm _ _ (get_mid h.ln (j := 1) rfl)) y_v)) rfl ZCD
   refine ZB2 ?_
   refine KC (fun q9 z9 => ?_) (fun q9 z9 => ?_)
   ·refine ZB6 ?_
    refine RW (iB rfl rfl) rfl y_r (ZAn ?_)
    exact RY (aM (a - 65408).toNat rfl rfl rfl o_m o_m) rfl (RZ (aH rfl rfl (bF (by have q8 := hm _ _ (get_high h.ln (j := (a - 65408).toNat) o_m); rwa [← dg] at q8) y_v)) rfl ZCD)
   exact ZEg
  refine A_12 ?_
  refine KC (fun q6 z6 => ?_) (fun q6 z6 => ?_)
  ·refine ZDR ?_
   exact RZ (aH rfl rfl (fun w hw => y_dZ)) rfl ZCD
  refine ZB2 ?_
  refine KC (fun q7 z7 => ?_) (fun q7 z7 => ?_)
  ·refine ZB2 ?_
   exact RZ (aH rfl rfl (bF (hm _ _ (get_mid h.ln (j := 1) rfl)) y_v)) rfl ZCD
  refine ZB2 ?_
  exact ZEh
 refine A_12 ?_
 refine KC (fun q3 z3 => ?_) (fun q3 z3 => ?_)
 ·refine ZB2 ?_
  refine RZ (aH rfl rfl (bF (hm _ _ (get_mid h.ln (j := 0) rfl)) y_v)) rfl (ZAa ?_)
  exact ZCD
 refine ZB6 ?_
 refine KL (fun q4 z4 => ?_) (fun q4 z4 => ?_)
 ·refine ZBx ?_
  refine KC (fun q5 z5 => ?_) (fun q5 z5 => ?_)
  ·refine ZB2 ?_
   refine RZ (aL rfl rfl y_cR (fun w hw => rowM_bd (aR hm y_v w hw))) rfl (ZBR ?_)
   refine ZBT ?_
   refine RLv K_ (wQ_ (aCS m.bd h.bd _)) ?_
   exact ZCD
  refine ZB2 ?_
  refine KC (fun q6 z6 => ?_) (fun q6 z6 => ?_)
  ·refine ZDR ?_
   exact RZ (aH rfl rfl (fun w hw => y_dZ)) rfl ZCD
  refine ZB2 ?_
  refine KC (fun q7 z7 => ?_) (fun q7 z7 => ?_)
  ·refine ZB2 ?_
   exact RZ (aH rfl rfl (bF (hm _ _ (get_mid h.ln (j := 1) rfl)) y_v)) rfl ZCD
  refine ZB2 ?_
  exact ZEh
 refine A_12 ?_
 refine KC (fun q5 z5 => ?_) (fun q5 z5 => ?_)
 ·refine ZDR ?_
  exact RZ (aH rfl rfl (fun w hw => y_dZ)) rfl ZCD
 refine ZB2 ?_
 refine KC (fun q6 z6 => ?_) (fun q6 z6 => ?_)
 ·refine ZB2 ?_
  exact RZ (aH rfl rfl (bF (hm _ _ (get_mid h.ln (j := 1) rfl)) y_v)) rfl ZCD
 refine ZB2 ?_
 refine KC (fun q7 z7 => ?_) (fun q7 z7 => ?_)
 ·refine ZB6 ?_
  refine RW (iB rfl rfl) rfl y_r (ZAn ?_)
  exact RY (aM (a - 65408).toNat rfl rfl rfl o_m o_m) rfl (RZ (aH rfl rfl (bF y_bB y_v)) rfl ZCD)
 exact ZEg
def aD4 (A : Ad) (acc : AH) (m : Mm) (h : m.Wf) (w : AI) (hm : Row w A.mb 0 (cMm A acc m)) (hu : Row w A.ub 0 (cU m.u)) (hr : Row w A.rb 0 (m.ram.map (.int .u8))) (ho : Row w A.ob 0 (m.rom.map (.int .u8))) (a : Int) (ha : 0 ≤ a ∧ a < 65536) : aC prog 236 [P_ A.mb, .int .u16 a] w [] (V_ (.int .u8 (kX a m))) := by
 have hrom := aP8 h ha
 refine dR_ func236 ?_
 refine A_9 ?_
 refine ZAY ?_
 refine A_9 ?_
 refine KC (fun q0 z0 => ?_) (fun q0 z0 => ?_)
 ·refine ZBR ?_
  refine DR [4, 5, 6, 7, 8, 9, 10] (pln [0, 2, 4, 6, 8, 10, 12, 14, 16, 18, 21, 22, 24, 26]) ?_
  refine ZBB ?_
  refine DL rfl rfl rfl (fG (hm _ _ (get_mid h.ln (j := 4) rfl)) y_v) rfl (ZB6 ?_)
  refine bU rfl rfl rfl rfl (fun w hw => rowM_bk (aA2 hm y_v w hw)) rfl rfl ?_
  refine ZBR ?_
  refine DZ rfl (aZ K_ rfl (wQ_ (aOV m.bk h.bk h.banks a ha))) rfl y_c (DY rfl (aV (aAP a m.bk).toNat rfl rfl rfl o_m o_m) rfl (DL rfl rfl rfl (fG (ho _ _ (dL (j := (aAP a m.bk).toNat) o_m)) y_v) rfl (ZBB ?_)))
  exact E0 rfl ⟨rfl, (by unfold kX; rw [if_pos o_m])⟩
 refine ZBB ?_
 refine RLv K_ (wQ_ (uS a ha)) ?_
 refine ZAn ?_
 refine KC (fun q1 z1 => ?_) (fun q1 z1 => ?_)
 ·refine ZBx ?_
  refine RZ (aH rfl rfl (bF (hm _ _ (get_mid h.ln (j := 14) rfl)) y_v)) rfl (ZBR ?_)
  refine RLv K_ (fun w hw => peek_fn A.ub m.u h.u.wf w (aR hu y_v w hw) a ha) ?_
  refine ZBB ?_
  exact E0 rfl ⟨rfl, (by unfold kX; rw [if_neg o_m, if_pos q1])⟩
 refine ZB2 ?_
 refine KC (fun q2 z2 => ?_) (fun q2 z2 => ?_)
 ·refine ZB6 ?_
  refine RLv K_ (fun w hw => aL8 A acc m h w (aR hm y_v w hw) (aR hu y_v w hw) (aR hr y_v w hw) (aR ho y_v w hw) a ha) ?_
  refine ZBB ?_
  exact E0 rfl ⟨rfl, (by unfold kX; rw [if_neg o_m, if_neg y_bR, if_pos o_m])⟩
 refine ZB2 ?_
 refine KC (fun q3 z3 => ?_) (fun q3 z3 => ?_)
 ·refine ZB6 ?_
  refine ZBU ?_
  refine ZAn ?_
  refine RY (aM (a % 8192).toNat rfl rfl rfl o_m o_m) rfl (RZ (aH rfl rfl (bF (by have h9 := hm _ _ (aEz h.ln (j := (a % 8192).toNat) o_m); rwa [← dg] at h9) y_v)) rfl (ZBB ?_))
  exact E0 rfl ⟨rfl, (by unfold kX; rw [if_neg o_m, if_neg y_bR, if_neg o_m, if_pos o_m])⟩
 refine ZB2 ?_
 refine KC (fun q4 z4 => ?_) (fun q4 z4 => ?_)
 ·refine ZBx ?_
  exact E0 rfl ⟨rfl, (by unfold kX; rw [if_neg o_m, if_neg y_bR, if_neg o_m, if_neg o_m, if_pos o_m])⟩
 refine ZBx ?_
 refine RLv K_ (fun w hw => aJG A acc m h w (aR hm y_v w hw) (aR hu y_v w hw) (aR hr y_v w hw) (aR ho y_v w hw) a o_m) ?_
 refine ZBB ?_
 exact E0 rfl ⟨rfl, (by unfold kX; rw [if_neg o_m, if_neg y_bR, if_neg o_m, if_neg o_m, if_neg o_m])⟩
def zR (A : Ad) (acc : AH) (m : Mm) (h : MLn m) (w : AI) (hm : Row w A.mb 0 (cMm A acc m)) : aC prog 17 [P_ A.mb] w [] (V_ (.agg (cS m.cpu).toArray)) := by
 refine dR_ func17 ?_
 refine ZAn ?_
 refine ZAt fun b0 => ?_
 refine ZBx ?_
 refine ZAY ?_
 refine A_9 ?_
 refine RZ (aL rfl rfl rfl (fun w hw => aEh (aR hm y_v w hw))) rfl (ZAI ?_)
 exact aF (fun w hw => aU rfl rfl rfl (aA (b := b0) m_m w hw)) ⟨rfl, rfl⟩
def aLT (A : Ad) (acc : AH) (m : Mm) (h : m.Wf) (w : AI) (hm : Row w A.mb 0 (cMm A acc m)) (a : Int) (ha : 0 ≤ a ∧ a < 65536) : aC prog 51 [P_ A.mb, .int .u16 a] w [] (V_ (.int .i64 (if 32768 ≤ a then 0 else bankB a m.bk))) := by
 refine dR_ func51 ?_
 refine A_8 ?_
 refine ZAY ?_
 refine ZBx ?_
 refine KC (fun q0 z0 => ?_) (fun q0 z0 => ?_)
 ·refine ZBx ?_
  exact E0 rfl ⟨rfl, (cA_ (Value.int .i64) y_dw)⟩
 refine ZDR ?_
 refine ZCE ?_
 refine ZBR ?_
 refine RLv K_ (wQ_ (aFv m.bk h.bk h.banks a ha)) ?_
 refine ZBB ?_
 exact E0 rfl ⟨rfl, (cA_ (Value.int .i64) y_dx)⟩
def ask_fnM (A : Ad) (acc : AH) (m : Mm) (h : MLn m) (k : Int) (is : Bool) (w : AI) (hst : St w [A.mb] [(A.mb, blk (cMm A acc m) 130)] w) : aC prog 30 [P_ A.mb, .int .u8 k, .bool is] w [A.mb] (fun v H => v = .tuple #[] ∧ H = [(A.mb, blk (cMm A acc (askM k is m)) 130)]) := by
 refine dO_ func30 hst ?_
 refine ZB6 ?_
 refine KC (fun q0 z0 => ?_) (fun q0 z0 => ?_)
 ·refine ZBx ?_
  refine RZ (aH rfl rfl (aT m_m (get_mid h (j := 0) rfl))) rfl (ZBR ?_)
  refine RY (cM rfl rfl) rfl (ZBB ?_)
  refine RZ (aD (l' := cMm A acc { m with flags := bor .u8 m.flags k }) 0 rfl rfl rfl rfl rfl rfl (by rw [cMm_len h]; exact ag rfl) (rN h _)) rfl (ZAC ?_)
  refine ZBR ?_
  exact EN sR_ ⟨rfl, by rw [show askM k is m = { m with flags := bor .u8 m.flags k } from if_pos q0]⟩
 refine ZBR ?_
 exact EN sR_ ⟨rfl, by rw [show askM k is m = m from if_neg (by rw [q0]; decide)]⟩
set_option maxHeartbeats 4000000 in
def cycle_fn (A : Ad) (acc : AH) (m : Mm) (h : m.Wf) (w : AI) (hst : St w [A.mb, A.ub] [(A.mb, blk (cMm A acc m) 130), (A.ub, blk (cU m.u) 204)] w) (hr : Row w A.rb 0 (m.ram.map (.int .u8))) (ho : Row w A.ob 0 (m.rom.map (.int .u8))) (hd : A.rb ∉ [A.mb, A.ub] ∧ A.ob ∉ [A.mb, A.ub]) : aC prog 179 [P_ A.mb] w [A.mb, A.ub] (fun v H => v = .tuple #[] ∧ H = [(A.mb, blk (cMm A acc (cycleM m)) 130), (A.ub, blk (cU (cycleM m).u) 204)]) := by
 have q0 := h.cyc1W
 have q1 := q0.cyc2W
 have q2 := q1.cyc3W
 have q3 := q2.cyc4W
 have q4 := q3.cyc5W
 have hA3 : ({ (cyc2 (cyc1 m)) with cp := tickCp (cyc2 (cyc1 m)).cp } : Mm).Wf := q1.cp_ q1.cp.tick
 have hA0 : MLn ({ m with cycles := (m.cycles + 1) % 18446744073709551616 } : Mm) := ⟨h.ln.bd, h.ln.work, h.ln.high⟩
 have hA1 : MLn ({ m with cycles := (m.cycles + 1) % 18446744073709551616, tm := lU m.tm } : Mm) := ⟨h.ln.bd, h.ln.work, h.ln.high⟩
 have hr2 : Row w A.rb 0 ((cyc2 (cyc1 m)).ram.map (.int .u8)) := by rw [aCO]; exact hr
 have ho2 : Row w A.ob 0 ((cyc2 (cyc1 m)).rom.map (.int .u8)) := by rw [aC3]; exact ho
 have hA2 : MLn ({ (cyc1 m) with pt := tickPt (cyc1 m).pt } : Mm) := ⟨q0.ln.bd, q0.ln.work, q0.ln.high⟩
 have hA5 : MLn ({ (cyc4 (cyc3 (cyc2 (cyc1 m)))) with u := tickU (cyc4 (cyc3 (cyc2 (cyc1 m)))).u } : Mm) := ⟨q3.ln.bd, q3.ln.work, q3.ln.high⟩
 have hA5b : MLn (askM 1 (aG .u8 (tickV (cyc4 (cyc3 (cyc2 (cyc1 m)))).u) 1 != 0) { (cyc4 (cyc3 (cyc2 (cyc1 m)))) with u := tickU (cyc4 (cyc3 (cyc2 (cyc1 m)))).u }) := ((q3.u_ q3.u.tick).ask _ _).ln
 refine dO_ func179 hst ?_
 refine ZB2 ?_
 refine RZ (aH rfl rfl (aT (v := .int .u64 m.cycles) m_m (get_mid h.ln (j := 3) rfl))) rfl (RW (jI rfl rfl) rfl y_dA (ZBB ?_))
 refine RZ (aD (l' := cMm A acc { m with cycles := (m.cycles + 1) % 18446744073709551616 }) 0 rfl rfl rfl rfl rfl rfl y_y (aFX h.ln _)) rfl (ZAC ?_)
 refine A_12 ?_
 refine RZ (aL rfl rfl rfl (fun w hw => aCy (m := ({ m with cycles := (m.cycles + 1) % 18446744073709551616 } : Mm)) (acc := acc) (aA (b := A.mb) m_m w hw))) rfl (RLv K_ (wQ_ (aJL m.tm h.tm)) ?_)
 refine ZB2 ?_
 refine RZ (aD (l' := cMm A acc { m with cycles := (m.cycles + 1) % 18446744073709551616, tm := lU m.tm }) 0 rfl rfl rfl rfl rfl rfl (by rw [cMm_len hA0]; exact ag rfl) (aGE _)) rfl (ZD5 ?_)
 refine RX (cB (F := []) (A := [(A.mb, blk (cMm A acc { m with cycles := (m.cycles + 1) % 18446744073709551616, tm := lU m.tm }) 130)]) (G := [(A.ub, blk (cU m.u) 204)]) (R := fun v H => v = .tuple #[] ∧ H = [(A.mb, blk (cMm A acc (askM 4 m.tm.over { m with cycles := (m.cycles + 1) % 18446744073709551616, tm := lU m.tm })) 130)]) K_ rfl (fun w hw _ => ask_fnM A acc { m with cycles := (m.cycles + 1) % 18446744073709551616, tm := lU m.tm } hA1 4 m.tm.over w hw)) rfl (ZAF ?_)
 refine ZAn ?_
 refine eP (L' := [(A.mb, blk (cMm A acc (cyc1 m)) 130), (A.ub, blk (cU (cyc1 m).u) 204)]) (fun _ h => h.as (by rw [aQi]; rfl)) ?_
 refine ZB2 ?_
 refine RZ (aL rfl rfl rfl (fun w hw => aCb (m := (cyc1 m)) (acc := acc) (aA (b := A.mb) m_m w hw))) rfl (RLv K_ (wQ_ (aKL (cyc1 m).pt q0.pt)) ?_)
 refine ZB2 ?_
 refine RZ (aD (l' := cMm A acc { (cyc1 m) with pt := tickPt (cyc1 m).pt }) 0 rfl rfl rfl rfl rfl rfl (by rw [cMm_len q0.ln]; exact ag rfl) (aGN _)) rfl (ZD5 ?_)
 refine RX (cB (F := []) (A := [(A.mb, blk (cMm A acc { (cyc1 m) with pt := tickPt (cyc1 m).pt }) 130)]) (G := [(A.ub, blk (cU (cyc1 m).u) 204)]) (R := fun v H => v = .tuple #[] ∧ H = [(A.mb, blk (cMm A acc (askM 8 (mT (cyc1 m).pt) { (cyc1 m) with pt := tickPt (cyc1 m).pt })) 130)]) K_ rfl (fun w hw _ => ask_fnM A acc { (cyc1 m) with pt := tickPt (cyc1 m).pt } hA2 8 (mT (cyc1 m).pt) w hw)) rfl (ZAF ?_)
 refine ZAn ?_
 refine eP (L' := [(A.mb, blk (cMm A acc (cyc2 (cyc1 m))) 130), (A.ub, blk (cU (cyc2 (cyc1 m)).u) 204)]) (fun _ h => h.as (by rw [aQR]; rfl)) ?_
 refine ZBx ?_
 refine RZ (aL rfl rfl rfl (fun w hw => rowM_cp (m := (cyc2 (cyc1 m))) (acc := acc) (aA (b := A.mb) m_m w hw))) rfl (RLv K_ (wQ_ (aIU (cyc2 (cyc1 m)).cp q1.cp)) ?_)
 refine ZBx ?_
 refine ZAt fun b0 => ?_
 refine RZ (xS_ (l' := cCp (tickCp (cyc2 (cyc1 m)).cp)) 0) rfl (ZAC ?_)
 refine ZDR ?_
 refine ZCw ?_
 refine ZBB ?_
 refine RZ (aD (l' := cMm A acc { (cyc2 (cyc1 m)) with cp := tickCp (cyc2 (cyc1 m)).cp }) 1 rfl rfl rfl rfl rfl rfl (by rw [cMm_len q1.ln]; exact ag rfl) (vF _)) rfl (ZD5 ?_)
 refine KC (fun q0 z0 => ?_) (fun q0 z0 => ?_)
 ·refine DR [4, 5, 6, 7] (pln [0, 2, 4, 6, 8, 10, 12, 15, 17]) ?_
  refine ZBB ?_
  refine DL rfl rfl rfl (cZ (v := P_ A.ub) m_m (get_mid (m := ({ (cyc2 (cyc1 m)) with cp := tickCp (cyc2 (cyc1 m)).cp } : Mm)) hA3.ln (j := 14) rfl)) rfl (ZBB ?_)
  refine DZ rfl (aZ K_ rfl (fun w hw => aD4 A acc { (cyc2 (cyc1 m)) with cp := tickCp (cyc2 (cyc1 m)).cp } hA3 w (aA (b := A.mb) m_m w hw) (aA (b := A.ub) m_m w hw) (aR hr2 hd.1 w hw) (aR ho2 hd.2 w hw) _ (aNl _))) rfl y_c (DX rfl (cB (F := [(b0, blk (cCp (tickCp (cyc2 (cyc1 m)).cp)) 115), (A.mb, blk (cMm A acc { (cyc2 (cyc1 m)) with cp := tickCp (cyc2 (cyc1 m)).cp }) 130)]) (A := [(A.ub, blk (cU (cyc2 (cyc1 m)).u) 204)]) (G := []) (R := fun v H => v = .tuple #[] ∧ H = [(A.ub, blk (cU (kH (cyc2 (cyc1 m)).u (xM (cyc2 (cyc1 m)).cp) (kX (qK (cyc2 (cyc1 m)).cp) { (cyc2 (cyc1 m)) with cp := tickCp (cyc2 (cyc1 m)).cp }))) 204)]) K_ rfl (fun w hw _ => aJ3 A.ub (cyc2 (cyc1 m)).u q1.u.wf w hw (xM (cyc2 (cyc1 m)).cp) (kX (qK (cyc2 (cyc1 m)).cp) { (cyc2 (cyc1 m)) with cp := tickCp (cyc2 (cyc1 m)).cp }) (wF hA3 _))) rfl n_h (ZAF ?_))
  refine ZAn ?_
  refine eP (L' := [(b0, blk (cCp (tickCp (cyc2 (cyc1 m)).cp)) 115), (A.mb, blk (cMm A acc (cyc3 (cyc2 (cyc1 m)))) 130), (A.ub, blk (cU (cyc3 (cyc2 (cyc1 m))).u) 204)]) (fun _ h => h.as (by rw [aL7 q0]; rfl)) ?_
  refine ZB2 ?_
  refine ZCq ?_
  refine ZDI ?_
  refine ZD5 ?_
  refine ZAp ?_
  refine ZAF ?_
  refine ZB2 ?_
  refine RW (v := (.int .u8 (aG .u8 (tickV (cyc4 (cyc3 (cyc2 (cyc1 m)))).u) 1))) (bA rfl rfl) rfl rfl (ZAf ?_)
  refine ZAF ?_
  refine ZBx ?_
  refine RW (v := (.int .u8 (aG .u8 (tickV (cyc4 (cyc3 (cyc2 (cyc1 m)))).u) 2))) (bA rfl rfl) rfl rfl (ZAW ?_)
  refine ZAF ?_
  refine ZCa ?_
  refine ZDN ?_
  refine ZBR ?_
  refine KC (fun q1 z1 => ?_) (fun q1 z1 => ?_)
  ·refine ZB2 ?_
   refine ZCn ?_
   refine ZDA ?_
   refine ZAC ?_
   refine ZBR ?_
   exact EN (.cons _ sR_) ⟨rfl, by unfold cycleM; rw [show nN (cyc5 (cyc4 (cyc3 (cyc2 (cyc1 m))))) = { (cyc5 (cyc4 (cyc3 (cyc2 (cyc1 m))))) with ck := tickCk (cyc5 (cyc4 (cyc3 (cyc2 (cyc1 m))))).ck } from if_pos q1]⟩
  refine ZBR ?_
  exact EN (.cons _ sR_) ⟨rfl, by unfold cycleM; rw [show nN (cyc5 (cyc4 (cyc3 (cyc2 (cyc1 m))))) = (cyc5 (cyc4 (cyc3 (cyc2 (cyc1 m))))) from if_neg y_bR]⟩
 refine ZAn ?_
 obtain ⟨e8, e9⟩ := aPR q0
 refine eP (L' := [(b0, blk (cCp (tickCp (cyc2 (cyc1 m)).cp)) 115), (A.mb, blk (cMm A acc (cyc3 (cyc2 (cyc1 m)))) 130), (A.ub, blk (cU (cyc3 (cyc2 (cyc1 m))).u) 204)]) (fun _ h => h.as (by rw [e8]; exact cA_ (fun z => [(b0, blk (cCp (tickCp (cyc2 (cyc1 m)).cp)) 115), (A.mb, blk (cMm A acc z) 130), (A.ub, blk (cU (cyc2 (cyc1 m)).u) 204)]) e9)) ?_
 refine ZB2 ?_
 refine ZCq ?_
 refine ZDI ?_
 refine ZD5 ?_
 refine ZAp ?_
 refine ZAF ?_
 refine ZB2 ?_
 refine RW (v := (.int .u8 (aG .u8 (tickV (cyc4 (cyc3 (cyc2 (cyc1 m)))).u) 1))) (bA rfl rfl) rfl rfl (ZAf ?_)
 refine ZAF ?_
 refine ZBx ?_
 refine RW (v := (.int .u8 (aG .u8 (tickV (cyc4 (cyc3 (cyc2 (cyc1 m)))).u) 2))) (bA rfl rfl) rfl rfl (ZAW ?_)
 refine ZAF ?_
 refine ZCa ?_
 refine ZDN ?_
 refine ZBR ?_
 refine KC (fun q2 z2 => ?_) (fun q2 z2 => ?_)
 ·refine ZB2 ?_
  refine ZCn ?_
  refine ZDA ?_
  refine ZAC ?_
  refine ZBR ?_
  exact EN (.cons _ sR_) ⟨rfl, by unfold cycleM; rw [show nN (cyc5 (cyc4 (cyc3 (cyc2 (cyc1 m))))) = { (cyc5 (cyc4 (cyc3 (cyc2 (cyc1 m))))) with ck := tickCk (cyc5 (cyc4 (cyc3 (cyc2 (cyc1 m))))).ck } from if_pos q2]⟩
 refine ZBR ?_
 exact EN (.cons _ sR_) ⟨rfl, by unfold cycleM; rw [show nN (cyc5 (cyc4 (cyc3 (cyc2 (cyc1 m))))) = (cyc5 (cyc4 (cyc3 (cyc2 (cyc1 m))))) from if_neg (by rw [q2]; decide)]⟩
end Go.Proofs.YtdbgagkcgdlnnaaGreat
