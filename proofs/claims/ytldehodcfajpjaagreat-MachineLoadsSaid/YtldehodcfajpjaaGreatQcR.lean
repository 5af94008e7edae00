/- A machine: what is written, wherever. -/
import Derived.Test.YtldehodcfajpjaaGreatQcO
import Derived.Test.YtldehodcfajpjaaGreatQcP
import Derived.Test.YtldehodcfajpjaaGreatQcQ
set_option linter.unusedSimpArgs false
set_option linter.unusedVariables false
set_option maxRecDepth 100000
namespace Go.Proofs.YtldehodcfajpjaaGreat
open Go Go.VV Go.Proofs Go.RowKit
set_option maxHeartbeats 2000000 in
theorem writeBd_fn (B : Bd) (hB : B.Wf) (n x : Int) (hx : 0 ≤ x ∧ x < 256) (w : World) : Does Tryz.prog 323 [.agg (cBd B).toArray, .int .i64 n, .int .u8 x] w [] (fun v H => H = [] ∧ v = .agg (cBd (writeBd n x B)).toArray) := by
 refine does_of Tryz.func323 rfl rfl rfl (St.refl w) ?_
 refine ZAA ?_
 refine RX (x_box (l := cBd B) rfl rfl) rfl ?_
 refine ZC8 fun b0 => ?_
 refine RX (x_alloc (l := cBd bdZ) y_g) rfl ?_
 rintro _ _ ⟨b1, rfl, rfl⟩
 refine ZAb ?_
 refine ZAQ ?_
 refine ZAU ?_
 refine KL (fun q0 q0n => ?_) (fun q0 q0n => ?_)
 ·refine L_4 ?_
  refine ZAj ?_
  refine ZAA ?_
  refine ZBt ?_
  exact ZEV
 ·refine ZCE ?_
  refine KC (fun q1 q1n => ?_) (fun q1 q1n => ?_)
  ·refine ZAA ?_
   refine ZBt ?_
   exact ZEV
  ·refine ZB4 ?_
   refine KC (fun q2 q2n => ?_) (fun q2 q2n => ?_)
   ·refine ZAA ?_
    refine RZ (x_loadA rfl rfl y_bm (row_own (b := b0) (l := cBd B) m_m)) rfl ?_
    refine Rl ?_
    refine RW (l_and rfl rfl) rfl y_dV ?_
    refine RW (v := (.bool (decide (x / 128 = 1)))) rfl rfl (congrArg Value.bool y_bV) ?_
    refine RLv call_324 (fun w hw => switchedB_fn B hB _ w) ?_
    refine RZ (x_storeTo (l' := cBd (if decide (x / 128 = 1) = true then onB B else offB B)) 0 rfl rfl rfl y_ch (ones_cBd _) rfl (by rw [cBd_len (show (if decide (x / 128 = 1) = true then onB B else offB B).Wf by split; exact hB.onW; exact hB.off), cBd_len bdZ_wf]; decide) (putZ (show (if decide (x / 128 = 1) = true then onB B else offB B).Wf by split; exact hB.onW; exact hB.off))) rfl ?_
    refine ZC0 ?_
    exact l_end0 (fun w hw => rets_cell rfl rfl y_ch (row_own (b := b1) (l := cBd (if decide (x / 128 = 1) = true then onB B else offB B)) m_m w hw)) ⟨rfl, by rw [show writeBd n x B = (if x / 128 = 1 then onB B else offB B) from by unfold writeBd; rw [if_neg o_m, if_pos o_m]]; simp only [decide_eq_true_eq]⟩
   ·refine ZA0 ?_
    have hon9 : B.on = B.on := rfl
    rcases hon9 : B.on with _ | _
    ·refine ZEZ ?_
     refine ZAf ?_
     refine ZBA ?_
     refine KC (fun q3 q3n => ?_) (fun q3 q3n => ?_)
     ·refine ZAA ?_
      refine ZBt ?_
      refine ZC0 ?_
      exact l_end0 (fun w hw => rets_cell rfl rfl y_bm (row_own (b := b1) (l := cBd B) m_m w hw)) ⟨rfl, by unfold writeBd; rw [if_neg o_m, if_neg o_m, if_pos ⟨hon9, y_D⟩]⟩
     ·refine ZAx ?_
      refine ZA0 ?_
      obtain ⟨k, rfl⟩ : ∃ k : Nat, n = k := ⟨n.toNat, y_D⟩
      have hPK : (putB k x B).Wf := hB.put k hx
      refine ZB2 ?_
      refine RY (idx_array1 k rfl rfl rfl o_m o_m) rfl ?_
      refine RZ (x_storeTo (l' := cBd ((putB k x B))) 1 rfl rfl rfl rfl rfl rfl y_M (y_dy)) rfl ?_
      refine ZAH ?_
      refine ZAz ?_
      refine KC (fun q4 q4n => ?_) (fun q4 q4n => ?_)
      ·refine ZAA ?_
       refine RZ (x_loadA rfl rfl y_bC (row_own (b := b0) (l := cBd (putB k x B)) m_m)) rfl ?_
       refine ZD3 ?_
       exact l_end0 (fun w hw => rets_cell rfl rfl y_bC (row_own (b := b1) (l := cBd (putB k x B)) m_m w hw)) ⟨rfl, y_ey⟩
      ·refine ZAx ?_
       refine ZAV ?_
       refine RW (v := (.int .i64 ((k / 5 : Nat) : Int))) rfl rfl ((as_quo o_m (show _ < (9223372036854775808 : Int) by omega) y_c).trans (congrArg _ o_m)) ?_
       refine ZAB ?_
       refine ZCc ?_
       have hv9 := hPK.v_ (k / 5)
       have hlg : longest (k / 5) = 64 ∨ longest (k / 5) = 256 := by unfold longest; split <;> simp
       have hm9 := Int.emod_lt_of_pos x (show 0 < longest (k / 5) by omega)
       have hm8 := Int.emod_nonneg x (show longest (k / 5) ≠ 0 by omega)
       refine ZC7 fun hWL hWO => ?_
       refine ZAZ ?_
       refine ZD7 ?_
       refine ZAb ?_
       refine c_block ?_
       refine ZAS ?_
       refine KC (fun q5 q5n => ?_) (fun q5 q5n => ?_)
       ·refine ZAo ?_
        refine RLv call_325 (fun w hw => longest_fn (k / 5) w) ?_
        refine ZEu ?_
        refine Rl ?_
        refine RLv call_325 (fun w hw => longest_fn (k / 5) w) ?_
        refine RW (v := (.int .i64 (x % longest (k / 5)))) (rem_pos rfl rfl o_m) rfl (congrArg _ (Int.tmod_eq_emod_of_nonneg o_m)) ?_
        refine ZCV ?_
        refine RLa ?_
        refine ZCp ?_
        refine RLa ?_
        refine RZ (x_storeTo (l' := cBd (((putB k x B).setV (k / 5) { ((putB k x B).v (k / 5)) with len := longest (k / 5) - x % longest (k / 5) }))) 1 rfl rfl rfl rfl rfl rfl y_6 (putBd_v hPK (k := 1) o_m y_c rfl)) rfl ?_
        refine ZAH ?_
        refine ZAA ?_
        refine RZ (x_loadA rfl rfl y_w (row_own (b := b0) (l := cBd ((putB k x B).setV (k / 5) { ((putB k x B).v (k / 5)) with len := longest (k / 5) - x % longest (k / 5) })) m_m)) rfl ?_
        refine RZ (x_storeTo (l' := cBd ((putB k x B).setV (k / 5) { ((putB k x B).v (k / 5)) with len := longest (k / 5) - x % longest (k / 5) })) 0 rfl rfl rfl y_c8 (ones_cBd _) rfl (by rw [cBd_len hWL, cBd_len bdZ_wf]; decide) (putZ hWL)) rfl ?_
        refine ZC0 ?_
        exact l_end0 (fun w hw => rets_cell rfl rfl y_c8 (row_own (b := b1) (l := cBd ((putB k x B).setV (k / 5) { ((putB k x B).v (k / 5)) with len := longest (k / 5) - x % longest (k / 5) })) m_m w hw)) ⟨rfl, y_en⟩
       ·refine ZAS ?_
        refine KC (fun q6 q6n => ?_) (fun q6 q6n => ?_)
        ·refine ZAV ?_
         refine RW (l_and rfl rfl) rfl y_dV ?_
         refine ZAB ?_
         refine KC (fun q7 q7n => ?_) (fun q7 q7n => ?_)
         ·refine ZDE ?_
          refine ZAX ?_
          refine ZAb ?_
          refine ZAA ?_
          refine ZDe ?_
          refine ZC0 ?_
          exact l_end0 (fun w hw => rets_cell rfl rfl y_cd (row_own (b := b1) (l := cBd (beginB (k / 5) (putB k x B))) m_m w hw)) ⟨rfl, by unfold writeBd; rw [if_neg o_m, if_neg o_m, if_neg y_cI, if_neg o_m, Int.toNat_natCast]; unfold voiceB; rw [if_neg o_m, if_pos o_m, if_pos o_m]⟩
         ·refine ZAx ?_
          refine ZAA ?_
          refine RZ (x_loadA rfl rfl y_w (row_own (b := b0) (l := cBd (putB k x B)) m_m)) rfl ?_
          refine ZD3 ?_
          exact l_end0 (fun w hw => rets_cell rfl rfl y_bC (row_own (b := b1) (l := cBd (putB k x B)) m_m w hw)) ⟨rfl, by unfold writeBd; rw [if_neg o_m, if_neg o_m, if_neg y_cI, if_neg o_m, Int.toNat_natCast]; unfold voiceB; rw [if_neg o_m, if_pos o_m, if_neg o_m]⟩
        ·refine ZB2 ?_
         refine ZCp ?_
         refine RLa ?_
         refine RZ (x_load rfl rfl (at_own (v := .bool ((putB k x B).v (k / 5)).on) m_m (cBd_v hPK (k := 0) o_m rfl))) rfl ?_
         refine KL (fun q7 q7n => ?_) (fun q7 q7n => ?_)
         ·refine Rl ?_
          refine RLv call_327 (fun w hw => readyB_fn b0 (putB k x B) hPK w (row_own (b := b0) (l := cBd (putB k x B)) m_m w hw) (k / 5) o_m) ?_
          refine RW (v := (.bool (((putB k x B).v (k / 5)).on && readyB (k / 5) (putB k x B)))) rfl rfl (by rw [show ((putB k x B).v (k / 5)).on = true from q7]; rfl) ?_
          refine RLa ?_
          refine ZCp ?_
          refine ZAn ?_
          refine ZAH ?_
          refine ZAA ?_
          refine ZAh ?_
          exact ZDL
         ·refine L_2 ?_
          refine RW (v := (.bool (((putB k x B).v (k / 5)).on && readyB (k / 5) (putB k x B)))) rfl rfl (by rw [show ((putB k x B).v (k / 5)).on = false from q7]; rfl) ?_
          refine RLa ?_
          refine ZCp ?_
          refine ZAn ?_
          refine ZAH ?_
          refine ZAA ?_
          refine ZAh ?_
          exact ZDL
    ·refine ZEc ?_
     refine ZAd ?_
     refine L_5 ?_
     refine ZBL ?_
     refine ZA0 ?_
     obtain ⟨k, rfl⟩ : ∃ k : Nat, n = k := ⟨n.toNat, y_D⟩
     have hPK : (putB k x B).Wf := hB.put k hx
     refine ZB2 ?_
     refine RY (idx_array1 k rfl rfl rfl o_m o_m) rfl ?_
     refine RZ (x_storeTo (l' := cBd ((putB k x B))) 1 rfl rfl rfl rfl rfl rfl y_M (y_dy)) rfl ?_
     refine ZAH ?_
     refine ZAz ?_
     refine KC (fun q3 q3n => ?_) (fun q3 q3n => ?_)
     ·refine ZAA ?_
      refine RZ (x_loadA rfl rfl y_bC (row_own (b := b0) (l := cBd (putB k x B)) m_m)) rfl ?_
      refine ZD3 ?_
      exact l_end0 (fun w hw => rets_cell rfl rfl y_bC (row_own (b := b1) (l := cBd (putB k x B)) m_m w hw)) ⟨rfl, y_ey⟩
     ·refine ZAx ?_
      refine ZAV ?_
      refine RW (v := (.int .i64 ((k / 5 : Nat) : Int))) rfl rfl ((as_quo o_m (show _ < (9223372036854775808 : Int) by omega) y_c).trans (congrArg _ o_m)) ?_
      refine ZAB ?_
      refine ZCc ?_
      have hv9 := hPK.v_ (k / 5)
      have hlg : longest (k / 5) = 64 ∨ longest (k / 5) = 256 := by unfold longest; split <;> simp
      have hm9 := Int.emod_lt_of_pos x (show 0 < longest (k / 5) by omega)
      have hm8 := Int.emod_nonneg x (show longest (k / 5) ≠ 0 by omega)
      refine ZC7 fun hWL hWO => ?_
      refine ZAZ ?_
      refine ZD7 ?_
      refine ZAb ?_
      refine c_block ?_
      refine ZAS ?_
      refine KC (fun q4 q4n => ?_) (fun q4 q4n => ?_)
      ·refine ZAo ?_
       refine RLv call_325 (fun w hw => longest_fn (k / 5) w) ?_
       refine ZEu ?_
       refine Rl ?_
       refine RLv call_325 (fun w hw => longest_fn (k / 5) w) ?_
       refine RW (v := (.int .i64 (x % longest (k / 5)))) (rem_pos rfl rfl o_m) rfl (congrArg _ (Int.tmod_eq_emod_of_nonneg o_m)) ?_
       refine ZCV ?_
       refine RLa ?_
       refine ZCp ?_
       refine RLa ?_
       refine RZ (x_storeTo (l' := cBd (((putB k x B).setV (k / 5) { ((putB k x B).v (k / 5)) with len := longest (k / 5) - x % longest (k / 5) }))) 1 rfl rfl rfl rfl rfl rfl y_6 (putBd_v hPK (k := 1) o_m y_c rfl)) rfl ?_
       refine ZAH ?_
       refine ZAA ?_
       refine RZ (x_loadA rfl rfl y_w (row_own (b := b0) (l := cBd ((putB k x B).setV (k / 5) { ((putB k x B).v (k / 5)) with len := longest (k / 5) - x % longest (k / 5) })) m_m)) rfl ?_
       refine RZ (x_storeTo (l' := cBd ((putB k x B).setV (k / 5) { ((putB k x B).v (k / 5)) with len := longest (k / 5) - x % longest (k / 5) })) 0 rfl rfl rfl y_c8 (ones_cBd _) rfl (by rw [cBd_len hWL, cBd_len bdZ_wf]; decide) (putZ hWL)) rfl ?_
       refine ZC0 ?_
       exact l_end0 (fun w hw => rets_cell rfl rfl y_c8 (row_own (b := b1) (l := cBd ((putB k x B).setV (k / 5) { ((putB k x B).v (k / 5)) with len := longest (k / 5) - x % longest (k / 5) })) m_m w hw)) ⟨rfl, y_en⟩
      ·refine ZAS ?_
       refine KC (fun q5 q5n => ?_) (fun q5 q5n => ?_)
       ·refine ZAV ?_
        refine RW (l_and rfl rfl) rfl y_dV ?_
        refine ZAB ?_
        refine KC (fun q6 q6n => ?_) (fun q6 q6n => ?_)
        ·refine ZDE ?_
         refine ZAX ?_
         refine ZAb ?_
         refine ZAA ?_
         refine ZDe ?_
         refine ZC0 ?_
         exact l_end0 (fun w hw => rets_cell rfl rfl y_cd (row_own (b := b1) (l := cBd (beginB (k / 5) (putB k x B))) m_m w hw)) ⟨rfl, by unfold writeBd; rw [if_neg o_m, if_neg o_m, if_neg y_J, if_neg o_m, Int.toNat_natCast]; unfold voiceB; rw [if_neg o_m, if_pos o_m, if_pos o_m]⟩
        ·refine ZAx ?_
         refine ZAA ?_
         refine RZ (x_loadA rfl rfl y_w (row_own (b := b0) (l := cBd (putB k x B)) m_m)) rfl ?_
         refine ZD3 ?_
         exact l_end0 (fun w hw => rets_cell rfl rfl y_bC (row_own (b := b1) (l := cBd (putB k x B)) m_m w hw)) ⟨rfl, by unfold writeBd; rw [if_neg o_m, if_neg o_m, if_neg y_J, if_neg o_m, Int.toNat_natCast]; unfold voiceB; rw [if_neg o_m, if_pos o_m, if_neg o_m]⟩
       ·refine ZB2 ?_
        refine ZCp ?_
        refine RLa ?_
        refine RZ (x_load rfl rfl (at_own (v := .bool ((putB k x B).v (k / 5)).on) m_m (cBd_v hPK (k := 0) o_m rfl))) rfl ?_
        refine KL (fun q6 q6n => ?_) (fun q6 q6n => ?_)
        ·refine Rl ?_
         refine RLv call_327 (fun w hw => readyB_fn b0 (putB k x B) hPK w (row_own (b := b0) (l := cBd (putB k x B)) m_m w hw) (k / 5) o_m) ?_
         refine RW (v := (.bool (((putB k x B).v (k / 5)).on && readyB (k / 5) (putB k x B)))) rfl rfl (by rw [show ((putB k x B).v (k / 5)).on = true from q6]; rfl) ?_
         refine RLa ?_
         refine ZCp ?_
         refine ZAn ?_
         refine ZAH ?_
         refine ZAA ?_
         refine ZAh ?_
         exact ZDM
        ·refine L_2 ?_
         refine RW (v := (.bool (((putB k x B).v (k / 5)).on && readyB (k / 5) (putB k x B)))) rfl rfl (by rw [show ((putB k x B).v (k / 5)).on = false from q6]; rfl) ?_
         refine RLa ?_
         refine ZCp ?_
         refine ZAn ?_
         refine ZAH ?_
         refine ZAA ?_
         refine ZAh ?_
         exact ZDM
theorem masksB_fn (w : World) : Does Tryz.prog 190 [] w [] (fun v H => H = [] ∧ v = .agg (masksB.map (Value.int .u8)).toArray) := by
 refine does_of Tryz.func190 rfl rfl rfl (St.refl w) ?_
 refine ZAA ?_
 refine ZBq fun b0 => ?_
 refine ZAb ?_
 refine ZAA ?_
 refine RY (light_array (l := [.int .u8 128, .int .u8 63, .int .u8 0, .int .u8 255, .int .u8 191, .int .u8 255, .int .u8 63, .int .u8 0, .int .u8 255, .int .u8 191, .int .u8 127, .int .u8 255, .int .u8 159, .int .u8 255, .int .u8 191, .int .u8 255, .int .u8 255, .int .u8 0, .int .u8 0, .int .u8 191, .int .u8 0, .int .u8 0, .int .u8 112]) (z := [.int .u8 0, .int .u8 0, .int .u8 0, .int .u8 0, .int .u8 0, .int .u8 0, .int .u8 0, .int .u8 0, .int .u8 0, .int .u8 0, .int .u8 0, .int .u8 0, .int .u8 0, .int .u8 0, .int .u8 0, .int .u8 0, .int .u8 0, .int .u8 0, .int .u8 0, .int .u8 0, .int .u8 0, .int .u8 0, .int .u8 0]) (ps := [(0, .int .u8 128), (1, .int .u8 63), (2, .int .u8 0), (3, .int .u8 255), (4, .int .u8 191), (5, .int .u8 255), (6, .int .u8 63), (7, .int .u8 0), (8, .int .u8 255), (9, .int .u8 191), (10, .int .u8 127), (11, .int .u8 255), (12, .int .u8 159), (13, .int .u8 255), (14, .int .u8 191), (15, .int .u8 255), (16, .int .u8 255), (17, .int .u8 0), (18, .int .u8 0), (19, .int .u8 191), (20, .int .u8 0), (21, .int .u8 0), (22, .int .u8 112)]) rfl rfl rfl y_g) rfl ?_
 refine ZA4 ?_
 exact l_end0 (fun w hw => rets_cell rfl rfl rfl (row_own (b := b0) (l := masksB.map (Value.int .u8)) m_m w hw)) ⟨rfl, rfl⟩
set_option maxHeartbeats 1000000 in
theorem readBd_fn (B : Bd) (hB : B.Wf) (n : Int) (w : World) : Does Tryz.prog 132 [.agg (cBd B).toArray, .int .i64 n] w [] (fun v H => H = [] ∧ v = .int .u8 (readB n B)) := by
 refine does_of Tryz.func132 rfl rfl rfl (St.refl w) ?_
 refine ZAA ?_
 refine RX (x_box (l := cBd B) rfl rfl) rfl ?_
 refine ZC8 fun b0 => ?_
 refine ZAB ?_
 refine ZAQ ?_
 refine ZAU ?_
 refine KL (fun q0 q0n => ?_) (fun q0 q0n => ?_)
 ·refine L_12 ?_
  refine ZAj ?_
  refine ZAY ?_
  exact E0 rfl ⟨rfl, y_cL⟩
 ·refine ZBQ ?_
  refine KL (fun q1 q1n => ?_) (fun q1 q1n => ?_)
  ·refine L_8 ?_
   refine ZAj ?_
   refine ZAY ?_
   exact E0 rfl ⟨rfl, y_cL⟩
  ·refine L_2 ?_
   refine KL (fun q2 q2n => ?_) (fun q2 q2n => ?_)
   ·refine ZBA ?_
    refine KC (fun q3 q3n => ?_) (fun q3 q3n => ?_)
    ·refine ZAY ?_
     exact E0 rfl ⟨rfl, y_cL⟩
    ·refine ZA0 ?_
     obtain ⟨k, rfl⟩ : ∃ k : Nat, n = k := ⟨n.toNat, y_D⟩
     refine ZAP ?_
     refine ZAR ?_
     refine KC (fun q4 q4n => ?_) (fun q4 q4n => ?_)
     ·refine ZAU ?_
      refine RY (idx_array1 k rfl rfl rfl o_m o_m) rfl ?_
      refine RZ (x_load rfl rfl (at_own m_m y_b1)) rfl ?_
      refine ZAI ?_
      exact E0 rfl ⟨rfl, y_dg⟩
     ·refine ZB4 ?_
      refine KC (fun q5 q5n => ?_) (fun q5 q5n => ?_)
      ·refine ZA0 ?_
       refine DR [4, 5, 6] (pln [0, 2, 4, 6, 10, 9, 12, 14, 16]) ?_
       refine D_2 ?_
       refine DY rfl (idx_array1 k rfl rfl rfl o_m o_m) rfl ?_
       refine DL rfl rfl rfl (s_own m_m y_b1) rfl ?_
       refine RD ?_
       refine DZ rfl (x_val call_190 rfl (fun w hw => masksB_fn w)) rfl y_b ?_
       refine DY rfl (light_idxV1 (l := masksB.map (Value.int .u8)) k rfl rfl rfl rfl rfl rfl o_m (map_at (by show k < 23; omega)) rfl) rfl ?_
       refine DW rfl (l_or rfl rfl) rfl rfl ?_
       refine RD ?_
       refine ZBe ?_
       exact E0 rfl ⟨rfl, y_cV⟩
      ·refine ZAx ?_
       refine ZAA ?_
       refine RLv call_190 (fun w hw => masksB_fn w) ?_
       refine Rl ?_
       refine RY (light_idxV1 (l := masksB.map (Value.int .u8)) 22 rfl rfl rfl rfl rfl o_m o_m rfl rfl) rfl ?_
       refine ZAB ?_
       refine ZCc ?_
       rcases hon9 : B.on with _ | _
       ·refine ZEZ ?_
        refine ZAb ?_
        refine c_sure false rfl rfl ?_
        refine ZAx ?_
        refine ZAG ?_
        refine ZCi ?_
        refine ZAB ?_
        exact ZAM
       ·refine ZEc ?_
        refine ZAb ?_
        refine c_sure true rfl rfl ?_
        refine ZAZ ?_
        refine RW (v := (.int .u8 240)) (l_or rfl rfl) rfl (congrArg (Value.int .u8) (show bor .u8 112 128 = 240 by decide)) ?_
        refine ZAB ?_
        refine ZAG ?_
        refine ZCi ?_
        refine ZAB ?_
        exact ZAM
   ·refine L_5 ?_
    refine ZDY ?_
    refine ZA0 ?_
    obtain ⟨k, rfl⟩ : ∃ k : Nat, n = k := ⟨n.toNat, y_D⟩
    refine ZAP ?_
    refine ZAR ?_
    refine KC (fun q3 q3n => ?_) (fun q3 q3n => ?_)
    ·refine ZAU ?_
     refine RY (idx_array1 k rfl rfl rfl o_m o_m) rfl ?_
     refine RZ (x_load rfl rfl (at_own m_m y_b1)) rfl ?_
     refine ZAI ?_
     exact E0 rfl ⟨rfl, y_dg⟩
    ·refine ZB4 ?_
     refine KC (fun q4 q4n => ?_) (fun q4 q4n => ?_)
     ·refine ZA0 ?_
      refine DR [4, 5, 6] (pln [0, 2, 4, 6, 10, 9, 12, 14, 16]) ?_
      refine D_2 ?_
      refine DY rfl (idx_array1 k rfl rfl rfl o_m o_m) rfl ?_
      refine DL rfl rfl rfl (s_own m_m y_b1) rfl ?_
      refine RD ?_
      refine DZ rfl (x_val call_190 rfl (fun w hw => masksB_fn w)) rfl y_b ?_
      refine DY rfl (light_idxV1 (l := masksB.map (Value.int .u8)) k rfl rfl rfl rfl rfl rfl o_m (map_at (by show k < 23; omega)) rfl) rfl ?_
      refine DW rfl (l_or rfl rfl) rfl rfl ?_
      refine RD ?_
      refine ZBe ?_
      exact E0 rfl ⟨rfl, y_cV⟩
     ·refine ZAx ?_
      refine ZAA ?_
      refine RLv call_190 (fun w hw => masksB_fn w) ?_
      refine Rl ?_
      refine RY (light_idxV1 (l := masksB.map (Value.int .u8)) 22 rfl rfl rfl rfl rfl o_m o_m rfl rfl) rfl ?_
      refine ZAB ?_
      refine ZCc ?_
      rcases hon9 : B.on with _ | _
      ·refine ZEZ ?_
       refine ZAb ?_
       refine c_sure false rfl rfl ?_
       refine ZAx ?_
       refine ZAG ?_
       refine ZCi ?_
       refine ZAB ?_
       exact ZAN
      ·refine ZEc ?_
       refine ZAb ?_
       refine c_sure true rfl rfl ?_
       refine ZAZ ?_
       refine RW (v := (.int .u8 240)) (l_or rfl rfl) rfl (congrArg (Value.int .u8) (show bor .u8 112 128 = 240 by decide)) ?_
       refine ZAB ?_
       refine ZAG ?_
       refine ZCi ?_
       refine ZAB ?_
       exact ZAN
theorem pictured_fn (a : Int) (ha : 0 ≤ a ∧ a < 65536) (w : World) : Does Tryz.prog 63 [.int .u16 a] w [] (fun v H => H = [] ∧ v = .bool (pictured a)) := by
 refine does_of Tryz.func63 rfl rfl rfl (St.refl w) ?_
 refine ZAa ?_
 refine ZAU ?_
 refine KL (fun q0 q0n => ?_) (fun q0 q0n => ?_)
 ·refine ZBQ ?_
  refine KL (fun q1 q1n => ?_) (fun q1 q1n => ?_)
  ·refine L_20 ?_
   refine ZAb ?_
   exact ZDN
  ·refine L_2 ?_
   refine KL (fun q2 q2n => ?_) (fun q2 q2n => ?_)
   ·iterate 4 refine Rl ?_
    refine KL (fun q3 q3n => ?_) (fun q3 q3n => ?_)
    ·refine L_12 ?_
     refine ZAb ?_
     exact ZDN
    ·refine L_2 ?_
     refine KL (fun q4 q4n => ?_) (fun q4 q4n => ?_)
     ·refine ZBQ ?_
      refine KL (fun q5 q5n => ?_) (fun q5 q5n => ?_)
      ·refine ZBA ?_
       exact ZDN
      ·refine L_5 ?_
       refine ZAb ?_
       exact ZDN
     ·refine L_9 ?_
      refine ZAb ?_
      exact ZDN
   ·refine L_7 ?_
    exact ZB6
 ·refine L_6 ?_
  refine KL (fun q1 q1n => ?_) (fun q1 q1n => ?_)
  ·iterate 4 refine Rl ?_
   refine KL (fun q2 q2n => ?_) (fun q2 q2n => ?_)
   ·refine L_12 ?_
    refine ZAb ?_
    exact ZDN
   ·refine L_2 ?_
    exact ZB6
  ·refine L_7 ?_
   refine KL (fun q2 q2n => ?_) (fun q2 q2n => ?_)
   ·refine ZBQ ?_
    refine KL (fun q3 q3n => ?_) (fun q3 q3n => ?_)
    ·refine ZBA ?_
     exact ZDN
    ·refine L_5 ?_
     refine ZAb ?_
     exact ZDN
   ·refine L_9 ?_
    refine ZAb ?_
    exact ZDN
theorem saved_fn (A : Ad) (acc : Value) (m : Mm) (h : m.Wf) (w : World) (hm : Row w A.mb 0 (cMm A acc m)) (hu : Row w A.ub 0 (cU m.u)) (hr : Row w A.rb 0 (m.ram.map (.int .u8))) (ho : Row w A.ob 0 (m.rom.map (.int .u8))) (a : Int) (ha : 0 ≤ a ∧ a < 65536) : Does Tryz.prog 65 [.pointer (some ⟨A.mb, 0, none⟩), .int .u16 a] w [] (fun v H => H = [] ∧ v = .int .u8 (savedM a m)) := by
 have hl9 := h.lRam
 refine does_of Tryz.func65 rfl rfl rfl (St.refl w) ?_
 refine ZCI ?_
 refine ZA0 ?_
 rcases hc9 : clockB m.bk with _ | p
 ·refine ZBj ?_
  refine ZDF ?_
  refine ZEt ?_
  refine ZBA ?_
  refine ZAA ?_
  refine ZDh ?_
  refine ZA0 ?_
  rcases hat9 : atB_ a m.bk with _ | n
  ·refine ZBj ?_
   refine ZDF ?_
   refine ZET ?_
   rw [hat9]
   refine ZBA ?_
   refine ZAQ ?_
   refine ZAV ?_
   refine ZAf ?_
   refine ZAB ?_
   refine ZDu ?_
   refine ZAY ?_
   exact E0 rfl ⟨rfl, (by unfold savedM; rw [hc9]; dsimp only; rw [hat9])⟩
  ·refine ZBj ?_
   refine ZDF ?_
   refine ZET ?_
   rw [hat9]
   refine ZBA ?_
   refine ZAQ ?_
   refine ZAV ?_
   refine ZAd ?_
   refine ZAB ?_
   refine c_false rfl ?_
   refine ZBl ?_
   refine RZ (x_load rfl rfl (at_old (hm _ _ (get_mid h.ln (j := 7) rfl)) y_z)) rfl ?_
   refine ZAE ?_
   refine KC (fun q0 q0n => ?_) (fun q0 q0n => ?_)
   ·refine ZA6 ?_
    have hn9 := atB_ok a hat9
    refine RZ (x_load rfl rfl (at_old (hm _ _ (get_mid h.ln (j := 15) rfl)) y_z)) rfl ?_
    refine Rl ?_
    refine RY (idx_slice1 n.toNat rfl rfl rfl o_m o_m) rfl ?_
    refine RZ (x_load rfl rfl (at_old (hr _ _ (map_at (j := n.toNat) o_m)) y_z)) rfl ?_
    refine ZBB ?_
    refine ZAI ?_
    exact E0 rfl ⟨rfl, (by unfold savedM; rw [hc9]; dsimp only; rw [hat9]; dsimp only; rw [if_pos o_m])⟩
   ·refine ZAx ?_
    refine ZA6 ?_
    have hn9 := atB_ok a hat9
    refine RZ (x_load rfl rfl (at_old (hm _ _ (get_mid h.ln (j := 15) rfl)) y_z)) rfl ?_
    refine Rl ?_
    refine RY (idx_slice1 n.toNat rfl rfl rfl o_m o_m) rfl ?_
    refine RZ (x_load rfl rfl (at_old (hr _ _ (map_at (j := n.toNat) o_m)) y_z)) rfl ?_
    refine ZAI ?_
    exact E0 rfl ⟨rfl, (by unfold savedM; rw [hc9]; dsimp only; rw [hat9]; dsimp only; rw [if_neg o_m])⟩
 ·refine ZBj ?_
  refine ZDF ?_
  refine ZEt ?_
  refine ZBA ?_
  refine ZAA ?_
  refine ZEB ?_
  refine ZBl ?_
  refine RZ (x_loadA rfl rfl rfl (fun w hw => rowM_ck (row_old hm y_z w hw))) rfl ?_
  refine Rl ?_
  refine RLv call_127 (fun w hw => readCk_fn m.ck h.ck p w) ?_
  refine ZAI ?_
  exact E0 rfl ⟨rfl, (by unfold savedM; rw [hc9])⟩
theorem device_fn (A : Ad) (acc : Value) (m : Mm) (h : m.Wf) (w : World) (hm : Row w A.mb 0 (cMm A acc m)) (hu : Row w A.ub 0 (cU m.u)) (hr : Row w A.rb 0 (m.ram.map (.int .u8))) (ho : Row w A.ob 0 (m.rom.map (.int .u8))) (a : Int) (ha : 65280 ≤ a ∧ a < 65536) : Does Tryz.prog 66 [.pointer (some ⟨A.mb, 0, none⟩), .int .u16 a] w [] (fun v H => H = [] ∧ v = .int .u8 (deviceM a m)) := by
 refine does_of Tryz.func66 rfl rfl rfl (St.refl w) ?_
 refine ZAa ?_
 refine ZAV ?_
 refine ZAw ?_
 refine ZAB ?_
 refine ZAQ ?_
 refine ZB4 ?_
 refine KC (fun q0 q0n => ?_) (fun q0 q0n => ?_)
 ·refine ZBl ?_
  refine RZ (x_loadA rfl rfl rfl (fun w hw => rowM_pd (row_old hm y_z w hw))) rfl ?_
  refine RLv call_129 (fun w hw => readPd_fn m.pd w) ?_
  exact ZDD
 ·refine ZB4 ?_
  refine KC (fun q1 q1n => ?_) (fun q1 q1n => ?_)
  ·refine ZBl ?_
   refine RZ (x_loadA rfl rfl rfl (fun w hw => rowM_pt (row_old hm y_z w hw))) rfl ?_
   refine Rl ?_
   refine ZCV ?_
   refine RLv call_130 (fun w hw => readPt_fn m.pt h.pt _ w) ?_
   exact ZDD
  ·refine ZAU ?_
   refine KL (fun q2 q2n => ?_) (fun q2 q2n => ?_)
   ·refine ZCE ?_
    refine KC (fun q3 q3n => ?_) (fun q3 q3n => ?_)
    ·refine ZBl ?_
     refine RZ (x_loadA rfl rfl rfl (fun w hw => rowM_tm (row_old hm y_z w hw))) rfl ?_
     refine Rl ?_
     refine ZCV ?_
     refine RLv call_131 (fun w hw => readTm_fn m.tm h.tm _ w) ?_
     exact ZDD
    ·refine ZB4 ?_
     refine KC (fun q4 q4n => ?_) (fun q4 q4n => ?_)
     ·refine ZBl ?_
      refine RZ (x_load rfl rfl (at_old (hm _ _ (get_mid h.ln (j := 0) rfl)) y_z)) rfl ?_
      refine ZBB ?_
      exact ZDD
     ·refine ZAU ?_
      refine KL (fun q5 q5n => ?_) (fun q5 q5n => ?_)
      ·refine ZCE ?_
       refine KC (fun q6 q6n => ?_) (fun q6 q6n => ?_)
       ·refine ZBl ?_
        refine RZ (x_loadA rfl rfl y_c4 (fun w hw => rowM_bd (row_old hm y_z w hw))) rfl ?_
        refine Rl ?_
        refine ZCV ?_
        refine RLv call_132 (fun w hw => readBd_fn m.bd h.bd _ w) ?_
        exact ZDD
       ·refine ZB4 ?_
        refine KC (fun q7 q7n => ?_) (fun q7 q7n => ?_)
        ·refine ZDU ?_
         refine RZ (x_load rfl rfl (fun w hw => y_ef)) rfl ?_
         exact ZDD
        ·refine ZB4 ?_
         refine KC (fun q8 q8n => ?_) (fun q8 q8n => ?_)
         ·refine ZBl ?_
          refine RZ (x_load rfl rfl (at_old (hm _ _ (get_mid h.ln (j := 1) rfl)) y_z)) rfl ?_
          exact ZDD
         ·refine ZB4 ?_
          refine KC (fun q9 q9n => ?_) (fun q9 q9n => ?_)
          ·refine ZAU ?_
           refine RW (l_sub rfl rfl) rfl y_r ?_
           refine L_2 ?_
           refine RY (idx_array1 (a - 65408).toNat rfl rfl rfl o_m o_m) rfl ?_
           refine RZ (x_load rfl rfl (at_old (by have q8 := hm _ _ (get_high h.ln (j := (a - 65408).toNat) o_m); rwa [← Nat.add_assoc] at q8) y_z)) rfl ?_
           exact ZDD
          ·refine ZAx ?_
           refine ZAY ?_
           exact E0 rfl ⟨rfl, y_i⟩
      ·refine L_4 ?_
       refine ZDY ?_
       refine ZAA ?_
       exact ZA2
   ·refine L_4 ?_
    refine ZDY ?_
    refine ZB4 ?_
    refine KC (fun q3 q3n => ?_) (fun q3 q3n => ?_)
    ·refine ZBl ?_
     refine RZ (x_load rfl rfl (at_old (hm _ _ (get_mid h.ln (j := 0) rfl)) y_z)) rfl ?_
     refine ZBB ?_
     exact ZDD
    ·refine ZAU ?_
     refine KL (fun q4 q4n => ?_) (fun q4 q4n => ?_)
     ·refine ZCE ?_
      refine KC (fun q5 q5n => ?_) (fun q5 q5n => ?_)
      ·refine ZBl ?_
       refine RZ (x_loadA rfl rfl y_c4 (fun w hw => rowM_bd (row_old hm y_z w hw))) rfl ?_
       refine Rl ?_
       refine ZCV ?_
       refine RLv call_132 (fun w hw => readBd_fn m.bd h.bd _ w) ?_
       exact ZDD
      ·refine ZAA ?_
       exact ZA2
     ·refine L_4 ?_
      refine ZDY ?_
      refine ZB4 ?_
      refine KC (fun q5 q5n => ?_) (fun q5 q5n => ?_)
      ·refine ZDU ?_
       refine RZ (x_load rfl rfl (fun w hw => y_ef)) rfl ?_
       exact ZDD
      ·refine ZB4 ?_
       refine KC (fun q6 q6n => ?_) (fun q6 q6n => ?_)
       ·refine ZBl ?_
        refine RZ (x_load rfl rfl (at_old (hm _ _ (get_mid h.ln (j := 1) rfl)) y_z)) rfl ?_
        exact ZDD
       ·refine ZB4 ?_
        refine KC (fun q7 q7n => ?_) (fun q7 q7n => ?_)
        ·refine ZAU ?_
         refine RW (l_sub rfl rfl) rfl y_r ?_
         refine L_2 ?_
         refine RY (idx_array1 (a - 65408).toNat rfl rfl rfl o_m o_m) rfl ?_
         refine RZ (x_load rfl rfl (at_old y_bE y_z)) rfl ?_
         exact ZDD
        ·refine ZAx ?_
         refine ZAY ?_
         exact E0 rfl ⟨rfl, y_i⟩
theorem peekM_fn (A : Ad) (acc : Value) (m : Mm) (h : m.Wf) (w : World) (hm : Row w A.mb 0 (cMm A acc m)) (hu : Row w A.ub 0 (cU m.u)) (hr : Row w A.rb 0 (m.ram.map (.int .u8))) (ho : Row w A.ob 0 (m.rom.map (.int .u8))) (a : Int) (ha : 0 ≤ a ∧ a < 65536) : Does Tryz.prog 25 [.pointer (some ⟨A.mb, 0, none⟩), .int .u16 a] w [] (fun v H => H = [] ∧ v = .int .u8 (peekM a m)) := by
 have hrom := romB_lt h ha
 refine does_of Tryz.func25 rfl rfl rfl (St.refl w) ?_
 refine ZAa ?_
 refine ZAQ ?_
 refine ZAV ?_
 refine ZAd ?_
 refine ZAB ?_
 refine c_false rfl ?_
 refine ZB4 ?_
 refine KC (fun q0 q0n => ?_) (fun q0 q0n => ?_)
 ·refine ZA0 ?_
  refine DR [4, 5, 6, 7, 8, 9, 10] (pln [0, 2, 4, 6, 8, 10, 12, 14, 16, 18, 21, 22, 24, 26]) ?_
  refine D_3 ?_
  refine DL rfl rfl rfl (s_old (hm _ _ (get_mid h.ln (j := 4) rfl)) y_z) rfl ?_
  refine D_4 ?_
  refine d_loadA rfl rfl rfl rfl (fun w hw => rowM_bk (srow_old hm y_z w hw)) rfl rfl ?_
  refine RD ?_
  refine DZ rfl (x_val call_62 rfl (fun w hw => romB_fn m.bk h.bk h.banks a ha w)) rfl y_b ?_
  refine DY rfl (idx_slice1 (romB a m.bk).toNat rfl rfl rfl o_m o_m) rfl ?_
  refine DL rfl rfl rfl (s_old (ho _ _ (map_at (j := (romB a m.bk).toNat) o_m)) y_z) rfl ?_
  refine RD ?_
  refine ZBe ?_
  exact E0 rfl ⟨rfl, (by unfold peekM; rw [if_pos o_m])⟩
 ·refine ZAV ?_
  refine RLv call_63 (fun w hw => pictured_fn a ha w) ?_
  refine ZAB ?_
  refine KC (fun q1 q1n => ?_) (fun q1 q1n => ?_)
  ·refine ZA6 ?_
   refine RZ (x_load rfl rfl (at_old (hm _ _ (get_mid h.ln (j := 14) rfl)) y_z)) rfl ?_
   refine Rl ?_
   refine RLv call_64 (fun w hw => peek_fn A.ub m.u h.u.wf w (row_old hu y_z w hw) a ha) ?_
   refine ZAI ?_
   exact E0 rfl ⟨rfl, (by unfold peekM; rw [if_neg o_m, if_pos q1])⟩
  ·refine ZB4 ?_
   refine KC (fun q2 q2n => ?_) (fun q2 q2n => ?_)
   ·refine ZAU ?_
    refine RLv call_65 (fun w hw => saved_fn A acc m h w (row_old hm y_z w hw) (row_old hu y_z w hw) (row_old hr y_z w hw) (row_old ho y_z w hw) a ha) ?_
    refine ZAI ?_
    exact E0 rfl ⟨rfl, (by unfold peekM; rw [if_neg o_m, if_neg y_bU, if_pos o_m])⟩
   ·refine ZB4 ?_
    refine KC (fun q3 q3n => ?_) (fun q3 q3n => ?_)
    ·refine ZAU ?_
     refine ZD7 ?_
     refine L_2 ?_
     refine RY (idx_array1 (a % 8192).toNat rfl rfl rfl o_m o_m) rfl ?_
     refine RZ (x_load rfl rfl (at_old (by have h9 := hm _ _ (get_work h.ln (j := (a % 8192).toNat) o_m); rwa [← Nat.add_assoc] at h9) y_z)) rfl ?_
     refine ZAI ?_
     exact E0 rfl ⟨rfl, (by unfold peekM; rw [if_neg o_m, if_neg y_bU, if_neg o_m, if_pos o_m])⟩
    ·refine ZB4 ?_
     refine KC (fun q4 q4n => ?_) (fun q4 q4n => ?_)
     ·refine ZAY ?_
      exact E0 rfl ⟨rfl, (by unfold peekM; rw [if_neg o_m, if_neg y_bU, if_neg o_m, if_neg o_m, if_pos o_m])⟩
     ·refine ZAx ?_
      refine ZAU ?_
      refine RLv call_66 (fun w hw => device_fn A acc m h w (row_old hm y_z w hw) (row_old hu y_z w hw) (row_old hr y_z w hw) (row_old ho y_z w hw) a o_m) ?_
      refine ZAI ?_
      exact E0 rfl ⟨rfl, (by unfold peekM; rw [if_neg o_m, if_neg y_bU, if_neg o_m, if_neg o_m, if_neg o_m])⟩
theorem stepsM_fn (A : Ad) (acc : Value) (m : Mm) (h : MLn m) (w : World) (hm : Row w A.mb 0 (cMm A acc m)) : Does Tryz.prog 29 [.pointer (some ⟨A.mb, 0, none⟩)] w [] (fun v H => H = [] ∧ v = .int .u64 m.steps) := by
 refine does_of Tryz.func29 rfl rfl rfl (St.refl w) ?_
 refine ZDo ?_
 refine ZDh ?_
 refine ZBl ?_
 refine RZ (x_load rfl rfl (at_old (hm _ _ (get_mid h (j := 2) rfl)) y_z)) rfl ?_
 exact ZBU
theorem cyclesM_fn (A : Ad) (acc : Value) (m : Mm) (h : MLn m) (w : World) (hm : Row w A.mb 0 (cMm A acc m)) : Does Tryz.prog 24 [.pointer (some ⟨A.mb, 0, none⟩)] w [] (fun v H => H = [] ∧ v = .int .u64 m.cycles) := by
 refine does_of Tryz.func24 rfl rfl rfl (St.refl w) ?_
 refine ZDo ?_
 refine ZDh ?_
 refine ZBl ?_
 refine RZ (x_load rfl rfl (at_old (hm _ _ (get_mid h (j := 3) rfl)) y_z)) rfl ?_
 exact ZBU
theorem stateM_fn (A : Ad) (acc : Value) (m : Mm) (h : MLn m) (w : World) (hm : Row w A.mb 0 (cMm A acc m)) : Does Tryz.prog 23 [.pointer (some ⟨A.mb, 0, none⟩)] w [] (fun v H => H = [] ∧ v = .agg (cS m.cpu).toArray) := by
 refine does_of Tryz.func23 rfl rfl rfl (St.refl w) ?_
 refine ZAA ?_
 refine ZBq fun b0 => ?_
 refine ZAb ?_
 refine ZA1 ?_
 refine ZDh ?_
 refine ZBl ?_
 refine RZ (x_loadA rfl rfl rfl (fun w hw => rowM_cpu (row_old hm y_z w hw))) rfl ?_
 refine ZA4 ?_
 exact l_end0 (fun w hw => rets_cell rfl rfl rfl (row_own (b := b0) m_m w hw)) ⟨rfl, rfl⟩
theorem ask_fnM (A : Ad) (acc : Value) (m : Mm) (h : MLn m) (k : Int) (is : Bool) (w : World) (hst : St w [A.mb] [(A.mb, blk (cMm A acc m) 137)] w) : Does Tryz.prog 50 [.pointer (some ⟨A.mb, 0, none⟩), .int .u8 k, .bool is] w [A.mb] (fun v H => v = .tuple #[] ∧ H = [(A.mb, blk (cMm A acc (askM k is m)) 137)]) := by
 refine does_of Tryz.func50 rfl rfl rfl hst ?_
 refine ZAa ?_
 refine KC (fun q0 q0n => ?_) (fun q0 q0n => ?_)
 ·refine ZBj ?_
  refine RZ (x_load rfl rfl (at_own m_m (get_mid h (j := 0) rfl))) rfl ?_
  refine Rl ?_
  refine RY (l_or rfl rfl) rfl ?_
  refine L_3 ?_
  refine RZ (x_storeTo (l' := cMm A acc { m with flags := bor .u8 m.flags k }) 0 rfl rfl rfl rfl rfl rfl (by rw [cMm_len h]; exact Nat.le_of_ble_eq_true rfl) (putM_flags h _)) rfl ?_
  refine ZAH ?_
  exact EN (List.Sublist.refl _) ⟨rfl, by rw [show askM k is m = { m with flags := bor .u8 m.flags k } from if_pos q0]⟩
 ·refine ZAx ?_
  exact EN (List.Sublist.refl _) ⟨rfl, by rw [show askM k is m = m from if_neg (by rw [q0]; decide)]⟩
set_option maxHeartbeats 4000000 in
theorem cycle_fn (A : Ad) (acc : Value) (m : Mm) (h : m.Wf) (w : World) (hst : St w [A.mb, A.ub] [(A.mb, blk (cMm A acc m) 137), (A.ub, blk (cU m.u) 178)] w) (hr : Row w A.rb 0 (m.ram.map (.int .u8))) (ho : Row w A.ob 0 (m.rom.map (.int .u8))) (hd : A.rb ∉ [A.mb, A.ub] ∧ A.ob ∉ [A.mb, A.ub]) : Does Tryz.prog 301 [.pointer (some ⟨A.mb, 0, none⟩)] w [A.mb, A.ub] (fun v H => v = .tuple #[] ∧ H = [(A.mb, blk (cMm A acc (cycleM m)) 137), (A.ub, blk (cU (cycleM m).u) 178)]) := by
 have q0 := h.cyc1W
 have q1 := q0.cyc2W
 have q2 := q1.cyc3W
 have q3 := q2.cyc4W
 have q4 := q3.cyc5W
 have hA3 : ({ (cyc2 (cyc1 m)) with cp := tickCp (cyc2 (cyc1 m)).cp } : Mm).Wf := q1.cp_ q1.cp.tick
 have hA0 : MLn ({ m with cycles := (m.cycles + 1) % 18446744073709551616 } : Mm) := ⟨h.ln.bd, h.ln.work, h.ln.high⟩
 have hA1 : MLn ({ m with cycles := (m.cycles + 1) % 18446744073709551616, tm := tickTm m.tm } : Mm) := ⟨h.ln.bd, h.ln.work, h.ln.high⟩
 have hr2 : Row w A.rb 0 ((cyc2 (cyc1 m)).ram.map (.int .u8)) := by rw [cyc12_ram]; exact hr
 have ho2 : Row w A.ob 0 ((cyc2 (cyc1 m)).rom.map (.int .u8)) := by rw [cyc12_rom]; exact ho
 have hA2 : MLn ({ (cyc1 m) with pt := tickPt (cyc1 m).pt } : Mm) := ⟨q0.ln.bd, q0.ln.work, q0.ln.high⟩
 have hA5 : MLn ({ (cyc4 (cyc3 (cyc2 (cyc1 m)))) with u := tickU (cyc4 (cyc3 (cyc2 (cyc1 m)))).u } : Mm) := ⟨q3.ln.bd, q3.ln.work, q3.ln.high⟩
 have hA5b : MLn (askM 1 (band .u8 (tickV (cyc4 (cyc3 (cyc2 (cyc1 m)))).u) 1 != 0) { (cyc4 (cyc3 (cyc2 (cyc1 m)))) with u := tickU (cyc4 (cyc3 (cyc2 (cyc1 m)))).u }) := ((q3.u_ q3.u.tick).ask _ _).ln
 refine does_of Tryz.func301 rfl rfl rfl hst ?_
 refine ZBl ?_
 refine RZ (x_load rfl rfl (at_own (v := .int .u64 m.cycles) m_m (get_mid h.ln (j := 3) rfl))) rfl ?_
 refine RW (l_add rfl rfl) rfl y_dL ?_
 refine L_3 ?_
 refine RZ (x_storeTo (l' := cMm A acc { m with cycles := (m.cycles + 1) % 18446744073709551616 }) 0 rfl rfl rfl rfl rfl rfl y_y (putM_cycles h.ln _)) rfl ?_
 refine ZAH ?_
 refine ZAa ?_
 refine ZDU ?_
 refine RZ (x_loadA rfl rfl rfl (fun w hw => rowM_tm (m := ({ m with cycles := (m.cycles + 1) % 18446744073709551616 } : Mm)) (acc := acc) (row_own (b := A.mb) m_m w hw))) rfl ?_
 refine RLv call_341 (fun w hw => tickTm_fn m.tm h.tm w) ?_
 refine L_6 ?_
 refine RZ (x_storeTo (l' := cMm A acc { m with cycles := (m.cycles + 1) % 18446744073709551616, tm := tickTm m.tm }) 0 rfl rfl rfl rfl rfl rfl (by rw [cMm_len hA0]; exact Nat.le_of_ble_eq_true rfl) (putM_tm _)) rfl ?_
 refine ZA3 ?_
 refine ZEC ?_
 refine RX (x_callMA (F := []) (A := [(A.mb, blk (cMm A acc { m with cycles := (m.cycles + 1) % 18446744073709551616, tm := tickTm m.tm }) 137)]) (G := [(A.ub, blk (cU m.u) 178)]) (R := fun v H => v = .tuple #[] ∧ H = [(A.mb, blk (cMm A acc (askM 4 m.tm.over { m with cycles := (m.cycles + 1) % 18446744073709551616, tm := tickTm m.tm })) 137)]) call_50 rfl (fun w hw _ => ask_fnM A acc { m with cycles := (m.cycles + 1) % 18446744073709551616, tm := tickTm m.tm } hA1 4 m.tm.over w hw)) rfl ?_
 refine ZAX ?_
 refine ZAb ?_
 refine ZA0 ?_
 refine c_heap (L' := [(A.mb, blk (cMm A acc (cyc1 m)) 137), (A.ub, blk (cU (cyc1 m).u) 178)]) (fun _ h => h.as (by rw [cyc1_u]; rfl)) ?_
 refine ZCx ?_
 refine RZ (x_loadA rfl rfl rfl (fun w hw => rowM_pt (m := (cyc1 m)) (acc := acc) (row_own (b := A.mb) m_m w hw))) rfl ?_
 refine RLv call_342 (fun w hw => tickPt_fn (cyc1 m).pt q0.pt w) ?_
 refine L_6 ?_
 refine RZ (x_storeTo (l' := cMm A acc { (cyc1 m) with pt := tickPt (cyc1 m).pt }) 0 rfl rfl rfl rfl rfl rfl (by rw [cMm_len q0.ln]; exact Nat.le_of_ble_eq_true rfl) (putM_pt _)) rfl ?_
 refine ZA3 ?_
 refine ZEC ?_
 refine RX (x_callMA (F := []) (A := [(A.mb, blk (cMm A acc { (cyc1 m) with pt := tickPt (cyc1 m).pt }) 137)]) (G := [(A.ub, blk (cU (cyc1 m).u) 178)]) (R := fun v H => v = .tuple #[] ∧ H = [(A.mb, blk (cMm A acc (askM 8 (irqPt (cyc1 m).pt) { (cyc1 m) with pt := tickPt (cyc1 m).pt })) 137)]) call_50 rfl (fun w hw _ => ask_fnM A acc { (cyc1 m) with pt := tickPt (cyc1 m).pt } hA2 8 (irqPt (cyc1 m).pt) w hw)) rfl ?_
 refine ZAX ?_
 refine ZAb ?_
 refine ZA0 ?_
 refine c_heap (L' := [(A.mb, blk (cMm A acc (cyc2 (cyc1 m))) 137), (A.ub, blk (cU (cyc2 (cyc1 m)).u) 178)]) (fun _ h => h.as (by rw [cyc2_u]; rfl)) ?_
 refine ZBj ?_
 refine RZ (x_loadA rfl rfl rfl (fun w hw => rowM_cp (m := (cyc2 (cyc1 m))) (acc := acc) (row_own (b := A.mb) m_m w hw))) rfl ?_
 refine RLv call_343 (fun w hw => tickCp_fn (cyc2 (cyc1 m)).cp q1.cp w) ?_
 iterate 5 refine Rl ?_
 refine ZBq fun b0 => ?_
 refine RZ (x_storeTo (l' := cCp (tickCp (cyc2 (cyc1 m)).cp)) 0 rfl rfl rfl rfl rfl rfl (Nat.le_of_ble_eq_true rfl) rfl) rfl ?_
 refine ZA3 ?_
 refine ZAR ?_
 refine ZAV ?_
 refine RZ (x_loadA rfl rfl rfl y_1) rfl ?_
 refine L_3 ?_
 refine RZ (x_storeTo (l' := cMm A acc { (cyc2 (cyc1 m)) with cp := tickCp (cyc2 (cyc1 m)).cp }) 1 rfl rfl rfl rfl rfl rfl (by rw [cMm_len q1.ln]; exact Nat.le_of_ble_eq_true rfl) (putM_cp _)) rfl ?_
 refine ZAH ?_
 refine ZAG ?_
 refine ZAB ?_
 refine KC (fun q0 q0n => ?_) (fun q0 q0n => ?_)
 ·refine DR [4, 5, 6, 7] (pln [0, 2, 4, 6, 8, 10, 12, 15, 17]) ?_
  refine D_3 ?_
  refine DL rfl rfl rfl (s_own (v := .pointer (some ⟨A.ub, 0, none⟩)) m_m (get_mid (m := ({ (cyc2 (cyc1 m)) with cp := tickCp (cyc2 (cyc1 m)).cp } : Mm)) hA3.ln (j := 14) rfl)) rfl ?_
  iterate 3 refine RD ?_
  refine DZ rfl (x_val call_25 rfl (fun w hw => peekM_fn A acc { (cyc2 (cyc1 m)) with cp := tickCp (cyc2 (cyc1 m)).cp } hA3 w (row_own (b := A.mb) m_m w hw) (row_own (b := A.ub) m_m w hw) (row_old hr2 hd.1 w hw) (row_old ho2 hd.2 w hw) _ (srcCp_ok _))) rfl y_b ?_
  refine DX rfl (x_callMA (F := [(b0, blk (cCp (tickCp (cyc2 (cyc1 m)).cp)) 127), (A.mb, blk (cMm A acc { (cyc2 (cyc1 m)) with cp := tickCp (cyc2 (cyc1 m)).cp }) 137)]) (A := [(A.ub, blk (cU (cyc2 (cyc1 m)).u) 178)]) (G := []) (R := fun v H => v = .tuple #[] ∧ H = [(A.ub, blk (cU (spriteU (cyc2 (cyc1 m)).u (dstCp (cyc2 (cyc1 m)).cp) (peekM (srcCp (cyc2 (cyc1 m)).cp) { (cyc2 (cyc1 m)) with cp := tickCp (cyc2 (cyc1 m)).cp }))) 178)]) call_344 rfl (fun w hw _ => sprite_fn A.ub (cyc2 (cyc1 m)).u q1.u.wf w hw (dstCp (cyc2 (cyc1 m)).cp) (peekM (srcCp (cyc2 (cyc1 m)).cp) { (cyc2 (cyc1 m)) with cp := tickCp (cyc2 (cyc1 m)).cp }) (peekM_ok hA3 _))) rfl n_h ?_
  refine ZAX ?_
  refine ZEb ?_
  refine ZA0 ?_
  refine c_heap (L' := [(b0, blk (cCp (tickCp (cyc2 (cyc1 m)).cp)) 127), (A.mb, blk (cMm A acc (cyc3 (cyc2 (cyc1 m)))) 137), (A.ub, blk (cU (cyc3 (cyc2 (cyc1 m))).u) 178)]) (fun _ h => h.as (by rw [cyc3_yes q0]; rfl)) ?_
  refine ZCx ?_
  refine ZDj ?_
  refine ZEX ?_
  refine ZAH ?_
  refine ZA6 ?_
  refine ZBZ ?_
  refine ZAX ?_
  refine ZEC ?_
  refine RW (v := (.int .u8 (band .u8 (tickV (cyc4 (cyc3 (cyc2 (cyc1 m)))).u) 1))) (l_and rfl rfl) rfl rfl ?_
  refine ZBJ ?_
  refine ZAX ?_
  refine ZAb ?_
  refine ZAU ?_
  refine RW (v := (.int .u8 (band .u8 (tickV (cyc4 (cyc3 (cyc2 (cyc1 m)))).u) 2))) (l_and rfl rfl) rfl rfl ?_
  refine ZAy ?_
  refine ZAX ?_
  refine ZAb ?_
  refine ZDa ?_
  refine ZEi ?_
  refine ZAb ?_
  refine KC (fun q1 q1n => ?_) (fun q1 q1n => ?_)
  ·refine ZCx ?_
   refine ZDg ?_
   refine ZEO ?_
   refine ZAH ?_
   exact EN (.cons _ (List.Sublist.refl _)) ⟨rfl, by unfold cycleM; rw [show cyc6 (cyc5 (cyc4 (cyc3 (cyc2 (cyc1 m))))) = { (cyc5 (cyc4 (cyc3 (cyc2 (cyc1 m))))) with ck := tickCk (cyc5 (cyc4 (cyc3 (cyc2 (cyc1 m))))).ck } from if_pos q1]⟩
  ·refine ZAx ?_
   exact EN (.cons _ (List.Sublist.refl _)) ⟨rfl, by unfold cycleM; rw [show cyc6 (cyc5 (cyc4 (cyc3 (cyc2 (cyc1 m))))) = (cyc5 (cyc4 (cyc3 (cyc2 (cyc1 m))))) from if_neg y_bU]⟩
 ·refine ZAx ?_
  refine ZA0 ?_
  obtain ⟨e8, e9⟩ := cyc3_no q0
  refine c_heap (L' := [(b0, blk (cCp (tickCp (cyc2 (cyc1 m)).cp)) 127), (A.mb, blk (cMm A acc (cyc3 (cyc2 (cyc1 m)))) 137), (A.ub, blk (cU (cyc3 (cyc2 (cyc1 m))).u) 178)]) (fun _ h => h.as (by rw [e8]; exact congrArg (fun z => [(b0, blk (cCp (tickCp (cyc2 (cyc1 m)).cp)) 127), (A.mb, blk (cMm A acc z) 137), (A.ub, blk (cU (cyc2 (cyc1 m)).u) 178)]) e9)) ?_
  refine ZCx ?_
  refine ZDj ?_
  refine ZEX ?_
  refine ZAH ?_
  refine ZA6 ?_
  refine ZBZ ?_
  refine ZAX ?_
  refine ZEC ?_
  refine RW (v := (.int .u8 (band .u8 (tickV (cyc4 (cyc3 (cyc2 (cyc1 m)))).u) 1))) (l_and rfl rfl) rfl rfl ?_
  refine ZBJ ?_
  refine ZAX ?_
  refine ZAb ?_
  refine ZAU ?_
  refine RW (v := (.int .u8 (band .u8 (tickV (cyc4 (cyc3 (cyc2 (cyc1 m)))).u) 2))) (l_and rfl rfl) rfl rfl ?_
  refine ZAy ?_
  refine ZAX ?_
  refine ZAb ?_
  refine ZDa ?_
  refine ZEi ?_
  refine ZAb ?_
  refine KC (fun q2 q2n => ?_) (fun q2 q2n => ?_)
  ·refine ZCx ?_
   refine ZDg ?_
   refine ZEO ?_
   refine ZAH ?_
   exact EN (.cons _ (List.Sublist.refl _)) ⟨rfl, by unfold cycleM; rw [show cyc6 (cyc5 (cyc4 (cyc3 (cyc2 (cyc1 m))))) = { (cyc5 (cyc4 (cyc3 (cyc2 (cyc1 m))))) with ck := tickCk (cyc5 (cyc4 (cyc3 (cyc2 (cyc1 m))))).ck } from if_pos q2]⟩
  ·refine ZAx ?_
   exact EN (.cons _ (List.Sublist.refl _)) ⟨rfl, by unfold cycleM; rw [show cyc6 (cyc5 (cyc4 (cyc3 (cyc2 (cyc1 m))))) = (cyc5 (cyc4 (cyc3 (cyc2 (cyc1 m))))) from if_neg (by rw [q2]; decide)]⟩
theorem save_fn (A : Ad) (acc : Value) (m : Mm) (h : m.Wf) (a x : Int) (ha : 0 ≤ a ∧ a < 65536) (hx : 0 ≤ x ∧ x < 256) (w : World) (hst : St w [A.mb, A.ub, A.rb] [(A.mb, blk (cMm A acc m) 137), (A.ub, blk (cU m.u) 178), (A.rb, blk (List.map (Value.int .u8) m.ram ++ A.rs) 5)] w) : Does Tryz.prog 360 [.pointer (some ⟨A.mb, 0, none⟩), .int .u16 a, .int .u8 x] w [A.mb, A.ub, A.rb] (fun v H => v = .tuple #[] ∧ H = [(A.mb, blk (cMm A acc (saveM a x m)) 137), (A.ub, blk (cU (saveM a x m).u) 178), (A.rb, blk (List.map (Value.int .u8) (saveM a x m).ram ++ A.rs) 5)]) := by
 have hl9 := h.lRam
 refine does_of Tryz.func360 rfl rfl rfl hst ?_
 refine ZCc ?_
 rcases hc9 : clockB m.bk with _ | p
 ·refine ZBj ?_
  refine ZCH ?_
  refine ZEt ?_
  refine ZBA ?_
  refine ZAA ?_
  refine ZDh ?_
  refine ZA0 ?_
  rcases hat9 : atB_ a m.bk with _ | n
  ·refine ZBj ?_
   refine ZCH ?_
   refine ZET ?_
   rw [hat9]
   refine ZBA ?_
   refine ZAA ?_
   refine ZDh ?_
   exact EN (List.Sublist.refl _) ⟨rfl, by unfold saveM; rw [hc9]; dsimp only; rw [hat9]⟩
  ·refine ZBj ?_
   refine ZCH ?_
   refine ZET ?_
   rw [hat9]
   refine ZBA ?_
   refine ZAA ?_
   refine ZEB ?_
   refine ZB2 ?_
   have hn9 := atB_ok a hat9
   refine RZ (x_load rfl rfl (at_own (v := .slice (some ⟨A.rb, 0, none⟩) m.ram.length A.rc) m_m (get_mid (m := m) h.ln (j := 15) rfl))) rfl ?_
   refine L_2 ?_
   refine RY (idx_slice1 n.toNat rfl rfl rfl o_m o_m) rfl ?_
   refine RZ (x_storeTo (l' := List.map (Value.int .u8) (m.ram.set n.toNat x) ++ A.rs) 2 rfl rfl rfl rfl rfl rfl (by rw [List.length_append, List.length_map, List.length_singleton]; omega) (by rw [Nat.zero_add, putL_left (by rw [List.length_map, List.length_singleton]; omega)]; exact congrArg (· ++ A.rs) (putL_int .u8 o_m _))) rfl ?_
   refine ZAH ?_
   exact EN (List.Sublist.refl _) ⟨rfl, by unfold saveM; rw [hc9]; dsimp only; rw [hat9]; dsimp only; rw [cMm_ram]⟩
 ·refine ZBj ?_
  refine ZCH ?_
  refine ZEt ?_
  refine ZBA ?_
  refine ZAA ?_
  refine ZEB ?_
  refine ZDU ?_
  refine RZ (x_loadA rfl rfl rfl (fun w hw => rowM_ck (m := m) (acc := acc) (row_own (b := A.mb) m_m w hw))) rfl ?_
  refine L_2 ?_
  refine RLv call_312 (fun w hw => writeCk_fn m.ck h.ck p x hx w) ?_
  refine L_3 ?_
  refine RZ (x_storeTo (l' := cMm A acc { m with ck := writeCk p x m.ck }) 0 rfl rfl rfl rfl rfl rfl y_y (putM_ck _)) rfl ?_
  refine ZC0 ?_
  exact EN (List.Sublist.refl _) ⟨rfl, by unfold saveM; rw [hc9]⟩
theorem setDevice_fn (A : Ad) (acc : Value) (m : Mm) (h : m.Wf) (a x : Int) (ha : 65280 ≤ a ∧ a < 65536) (hx : 0 ≤ x ∧ x < 256) (w : World) (hst : St w [A.mb] [(A.mb, blk (cMm A acc m) 137)] w) : Does Tryz.prog 361 [.pointer (some ⟨A.mb, 0, none⟩), .int .u16 a, .int .u8 x] w [A.mb] (fun v H => v = .tuple #[] ∧ H = [(A.mb, blk (cMm A acc (setDeviceM a x m)) 137)]) := by
 have hP : MLn ({ m with pd := selPd x m.pd } : Mm) := ⟨h.ln.bd, h.ln.work, h.ln.high⟩
 refine does_of Tryz.func361 rfl rfl rfl hst ?_
 refine ZAV ?_
 refine ZAw ?_
 refine ZBO ?_
 refine ZB4 ?_
 refine KC (fun q0 q0n => ?_) (fun q0 q0n => ?_)
 ·refine ZAa ?_
  refine ZDU ?_
  refine RZ (x_loadA rfl rfl rfl (fun w hw => rowM_pd (m := m) (acc := acc) (row_own (b := A.mb) m_m w hw))) rfl ?_
  refine Rl ?_
  refine RLv call_318 (fun w hw => selPd_fn m.pd x w) ?_
  refine L_6 ?_
  refine RZ (x_storeTo (l' := cMm A acc { m with pd := selPd x m.pd }) 0 rfl rfl rfl rfl rfl rfl y_y (putM_pd _)) rfl ?_
  refine ZA3 ?_
  refine ZAB ?_
  refine ZAo ?_
  refine RX (x_callMA (F := []) (A := [(A.mb, blk (cMm A acc { m with pd := selPd x m.pd }) 137)]) (G := []) (R := fun v H => v = .tuple #[] ∧ H = [(A.mb, blk (cMm A acc (askM 16 (fallsPd m.pd (selPd x m.pd)) { m with pd := selPd x m.pd })) 137)]) call_50 rfl (fun w hw _ => ask_fnM A acc { m with pd := selPd x m.pd } hP 16 (fallsPd m.pd (selPd x m.pd)) w hw)) rfl ?_
  refine ZAX ?_
  refine ZAb ?_
  exact EN (List.Sublist.refl _) ⟨rfl, y_m⟩
 ·refine ZB4 ?_
  refine KC (fun q1 q1n => ?_) (fun q1 q1n => ?_)
  ·refine ZCx ?_
   refine RZ (x_loadA rfl rfl rfl (fun w hw => rowM_pt (m := m) (acc := acc) (row_own (b := A.mb) m_m w hw))) rfl ?_
   refine Rl ?_
   refine ZCV ?_
   refine Rl ?_
   refine RLv call_319 (fun w hw => writePt_fn m.pt h.pt _ x hx w) ?_
   refine L_3 ?_
   refine RZ (x_storeTo (l' := cMm A acc { m with pt := writePt (a - 65281) x m.pt }) 0 rfl rfl rfl rfl rfl rfl y_y (putM_pt _)) rfl ?_
   exact ZCj
  ·refine ZAU ?_
   refine KL (fun q2 q2n => ?_) (fun q2 q2n => ?_)
   ·refine ZCE ?_
    refine KC (fun q3 q3n => ?_) (fun q3 q3n => ?_)
    ·refine ZCx ?_
     refine RZ (x_loadA rfl rfl rfl (fun w hw => rowM_tm (m := m) (acc := acc) (row_own (b := A.mb) m_m w hw))) rfl ?_
     refine Rl ?_
     refine ZCV ?_
     refine Rl ?_
     refine RLv call_313 (fun w hw => writeTm_fn m.tm h.tm _ x hx w) ?_
     refine L_3 ?_
     refine RZ (x_storeTo (l' := cMm A acc { m with tm := writeTm (a - 65284) x m.tm }) 0 rfl rfl rfl rfl rfl rfl y_y (putM_tm _)) rfl ?_
     exact ZCj
    ·refine ZB4 ?_
     refine KC (fun q4 q4n => ?_) (fun q4 q4n => ?_)
     ·refine ZAo ?_
      refine RW (v := (.int .u8 (band .u8 x 31))) (l_and rfl rfl) rfl rfl ?_
      refine L_3 ?_
      refine RZ (x_storeTo (l' := cMm A acc { m with flags := band .u8 x 31 }) 0 rfl rfl rfl rfl rfl rfl y_y (putM_flags h.ln _)) rfl ?_
      exact ZCj
     ·refine ZAU ?_
      refine KL (fun q5 q5n => ?_) (fun q5 q5n => ?_)
      ·refine ZCE ?_
       refine KC (fun q6 q6n => ?_) (fun q6 q6n => ?_)
       ·refine ZCx ?_
        refine RZ (x_loadA rfl rfl y_c4 (fun w hw => rowM_bd (m := m) (acc := acc) (row_own (b := A.mb) m_m w hw))) rfl ?_
        refine Rl ?_
        refine ZCV ?_
        refine Rl ?_
        refine RLv call_323 (fun w hw => writeBd_fn m.bd h.bd _ x hx w) ?_
        refine L_3 ?_
        refine RZ (x_storeTo (l' := cMm A acc { m with bd := writeBd (a - 65296) x m.bd }) 0 rfl rfl rfl y_dE (ones_cBd _) rfl y_cG (putM_bd h.ln (h.bd.write (a - 65296) hx).ln)) rfl ?_
        exact ZCj
       ·refine ZB4 ?_
        refine KC (fun q7 q7n => ?_) (fun q7 q7n => ?_)
        ·refine ZCx ?_
         refine RZ (x_loadA rfl rfl rfl (fun w hw => rowM_cp (m := m) (acc := acc) (row_own (b := A.mb) m_m w hw))) rfl ?_
         refine Rl ?_
         refine RLv call_322 (fun w hw => writeCp_fn m.cp x w) ?_
         refine L_3 ?_
         refine RZ (x_storeTo (l' := cMm A acc { m with cp := writeCp x }) 0 rfl rfl rfl rfl rfl rfl y_y (putM_cp _)) rfl ?_
         exact ZCj
        ·refine ZB4 ?_
         refine KC (fun q8 q8n => ?_) (fun q8 q8n => ?_)
         ·refine ZCx ?_
          refine RZ (x_storeTo (l' := cMm A acc { m with lets := x }) 0 rfl rfl rfl rfl rfl rfl y_y (putM_lets h.ln _)) rfl ?_
          exact ZCj
         ·refine ZB4 ?_
          refine KC (fun q9 q9n => ?_) (fun q9 q9n => ?_)
          ·refine ZAo ?_
           refine RW (l_sub rfl rfl) rfl y_r ?_
           refine L_3 ?_
           refine RY (idx_array1 (a - 65408).toNat rfl rfl rfl o_m o_m) rfl ?_
           refine RZ (x_storeTo (l' := cMm A acc { m with high := m.high.set (a - 65408).toNat x }) 0 rfl rfl rfl rfl rfl rfl y_bg (putM_high h.ln o_m _)) rfl ?_
           exact ZCj
          ·refine ZAx ?_
           exact EN (List.Sublist.refl _) ⟨rfl, y_m⟩
      ·refine L_4 ?_
       refine ZDY ?_
       refine ZAA ?_
       exact ZAe
   ·refine L_4 ?_
    refine ZDY ?_
    refine ZB4 ?_
    refine KC (fun q3 q3n => ?_) (fun q3 q3n => ?_)
    ·refine ZAo ?_
     refine RW (v := (.int .u8 (band .u8 x 31))) (l_and rfl rfl) rfl rfl ?_
     refine L_3 ?_
     refine RZ (x_storeTo (l' := cMm A acc { m with flags := band .u8 x 31 }) 0 rfl rfl rfl rfl rfl rfl y_y (putM_flags h.ln _)) rfl ?_
     exact ZCj
    ·refine ZAU ?_
     refine KL (fun q4 q4n => ?_) (fun q4 q4n => ?_)
     ·refine ZCE ?_
      refine KC (fun q5 q5n => ?_) (fun q5 q5n => ?_)
      ·refine ZCx ?_
       refine RZ (x_loadA rfl rfl y_c4 (fun w hw => rowM_bd (m := m) (acc := acc) (row_own (b := A.mb) m_m w hw))) rfl ?_
       refine Rl ?_
       refine ZCV ?_
       refine Rl ?_
       refine RLv call_323 (fun w hw => writeBd_fn m.bd h.bd _ x hx w) ?_
       refine L_3 ?_
       refine RZ (x_storeTo (l' := cMm A acc { m with bd := writeBd (a - 65296) x m.bd }) 0 rfl rfl rfl y_dE (ones_cBd _) rfl y_cG (putM_bd h.ln (h.bd.write (a - 65296) hx).ln)) rfl ?_
       exact ZCj
      ·refine ZAA ?_
       exact ZAe
     ·refine L_4 ?_
      refine ZDY ?_
      refine ZB4 ?_
      refine KC (fun q5 q5n => ?_) (fun q5 q5n => ?_)
      ·refine ZCx ?_
       refine RZ (x_loadA rfl rfl rfl (fun w hw => rowM_cp (m := m) (acc := acc) (row_own (b := A.mb) m_m w hw))) rfl ?_
       refine Rl ?_
       refine RLv call_322 (fun w hw => writeCp_fn m.cp x w) ?_
       refine L_3 ?_
       refine RZ (x_storeTo (l' := cMm A acc { m with cp := writeCp x }) 0 rfl rfl rfl rfl rfl rfl y_y (putM_cp _)) rfl ?_
       exact ZCj
      ·refine ZB4 ?_
       refine KC (fun q6 q6n => ?_) (fun q6 q6n => ?_)
       ·refine ZCx ?_
        refine RZ (x_storeTo (l' := cMm A acc { m with lets := x }) 0 rfl rfl rfl rfl rfl rfl y_y (putM_lets h.ln _)) rfl ?_
        exact ZCj
       ·refine ZB4 ?_
        refine KC (fun q7 q7n => ?_) (fun q7 q7n => ?_)
        ·refine ZAo ?_
         refine RW (l_sub rfl rfl) rfl y_r ?_
         refine L_3 ?_
         refine RY (idx_array1 (a - 65408).toNat rfl rfl rfl o_m o_m) rfl ?_
         refine RZ (x_storeTo (l' := cMm A acc { m with high := m.high.set (a - 65408).toNat x }) 0 rfl rfl rfl rfl rfl rfl y_bg (putM_high h.ln o_m _)) rfl ?_
         exact ZCj
        ·refine ZAx ?_
         exact EN (List.Sublist.refl _) ⟨rfl, y_m⟩
set_option maxHeartbeats 1000000 in
theorem poke_fn (A : Ad) (acc : Value) (m : Mm) (h : m.Wf) (a x : Int) (ha : 0 ≤ a ∧ a < 65536) (hx : 0 ≤ x ∧ x < 256) (w : World) (hst : St w [A.mb, A.ub, A.rb] [(A.mb, blk (cMm A acc m) 137), (A.ub, blk (cU m.u) 178), (A.rb, blk (List.map (Value.int .u8) m.ram ++ A.rs) 5)] w) : Does Tryz.prog 349 [.pointer (some ⟨A.mb, 0, none⟩), .int .u16 a, .int .u8 x] w [A.mb, A.ub, A.rb] (fun v H => v = .tuple #[] ∧ H = [(A.mb, blk (cMm A acc (pokeM a x m)) 137), (A.ub, blk (cU (pokeM a x m).u) 178), (A.rb, blk (List.map (Value.int .u8) (pokeM a x m).ram ++ A.rs) 5)]) := by
 have hB1 : MLn ({ m with bk := writeB a x m.bk } : Mm) := ⟨h.ln.bd, h.ln.work, h.ln.high⟩
 have hU1 : MLn ({ m with u := writeU m.u a x } : Mm) := ⟨h.ln.bd, h.ln.work, h.ln.high⟩
 refine does_of Tryz.func349 rfl rfl rfl hst ?_
 refine c_block ?_
 refine ZB4 ?_
 refine KC (fun q0 q0n => ?_) (fun q0 q0n => ?_)
 ·refine ZAa ?_
  refine ZDU ?_
  refine ZCH ?_
  refine L_2 ?_
  refine RLv call_306 (fun w hw => writeB_fn m.bk h.bk a x ha hx w) ?_
  refine L_6 ?_
  refine RZ (x_storeTo (l' := cMm A acc { m with bk := writeB a x m.bk }) 0 rfl rfl rfl rfl rfl rfl y_y (putM_bk _)) rfl ?_
  refine ZA3 ?_
  refine ZAB ?_
  refine ZAa ?_
  refine KC (fun q1 q1n => ?_) (fun q1 q1n => ?_)
  ·refine ZCx ?_
   refine RZ (x_loadA rfl rfl rfl (fun w hw => rowM_ck (m := ({ m with bk := writeB a x m.bk } : Mm)) (acc := acc) (row_own (b := A.mb) m_m w hw))) rfl ?_
   refine RLv call_359 (fun w hw => holdCk_fn m.ck h.ck w) ?_
   refine L_3 ?_
   refine RZ (x_storeTo (l' := cMm A acc { m with bk := writeB a x m.bk, ck := holdCk m.ck }) 0 rfl rfl rfl rfl rfl rfl (by rw [cMm_len hB1]; exact Nat.le_of_ble_eq_true rfl) (putM_ck _)) rfl ?_
   refine ZAH ?_
   exact EN (List.Sublist.refl _) ⟨rfl, by rw [show pokeM a x m = { m with bk := writeB a x m.bk, ck := holdCk m.ck } from by unfold pokeM; rw [if_pos o_m]; unfold latchM; rw [if_pos q1]]⟩
  ·refine ZAx ?_
   exact EN (List.Sublist.refl _) ⟨rfl, by rw [show pokeM a x m = { m with bk := writeB a x m.bk } from by unfold pokeM; rw [if_pos o_m]; unfold latchM; rw [if_neg y_bU]]⟩
 ·refine ZAV ?_
  refine RLv call_63 (fun w hw => pictured_fn a ha w) ?_
  refine ZAB ?_
  refine KC (fun q1 q1n => ?_) (fun q1 q1n => ?_)
  ·refine ZBj ?_
   refine RZ (x_load rfl rfl (at_own (v := .pointer (some ⟨A.ub, 0, none⟩)) m_m (get_mid (m := m) h.ln (j := 14) rfl))) rfl ?_
   refine L_2 ?_
   refine RX (x_callMA (F := [(A.mb, blk (cMm A acc m) 137)]) (A := [(A.ub, blk (cU m.u) 178)]) (G := [(A.rb, blk (List.map (Value.int .u8) m.ram ++ A.rs) 5)]) (R := fun v H => v = .int .u8 (writeV m.u a x) ∧ H = [(A.ub, blk (cU (writeU m.u a x)) 178)]) call_303 rfl (fun w hw _ => write_fn A.ub m.u h.u.wf w hw a x ha hx)) rfl ?_
   refine ZEU ?_
   refine RW (v := (.int .u8 (band .u8 (writeV m.u a x) 2))) (l_and rfl rfl) rfl rfl ?_
   refine Rl ?_
   refine RX (x_callMA (F := []) (A := [(A.mb, blk (cMm A acc { m with u := writeU m.u a x }) 137)]) (G := [(A.ub, blk (cU (writeU m.u a x)) 178), (A.rb, blk (List.map (Value.int .u8) m.ram ++ A.rs) 5)]) (R := fun v H => v = .tuple #[] ∧ H = [(A.mb, blk (cMm A acc (askM 2 (band .u8 (writeV m.u a x) 2 != 0) { m with u := writeU m.u a x })) 137)]) call_50 rfl (fun w hw _ => ask_fnM A acc { m with u := writeU m.u a x } hU1 2 (band .u8 (writeV m.u a x) 2 != 0) w hw)) rfl ?_
   refine ZEU ?_
   refine ZAb ?_
   exact EN (List.Sublist.refl _) ⟨rfl, by rw [show pokeM a x m = askM 2 (band .u8 (writeV m.u a x) 2 != 0) { m with u := writeU m.u a x } from by unfold pokeM; rw [if_neg o_m, if_pos q1]]; rw [askM_u, askM_ram]⟩
  ·refine ZB4 ?_
   refine KC (fun q2 q2n => ?_) (fun q2 q2n => ?_)
   ·refine ZAP ?_
    refine ZBQ ?_
    refine RX (x_callMA (F := []) (A := [(A.mb, blk (cMm A acc m) 137), (A.ub, blk (cU m.u) 178), (A.rb, blk (List.map (Value.int .u8) m.ram ++ A.rs) 5)]) (G := []) (R := fun v H => v = .tuple #[] ∧ H = [(A.mb, blk (cMm A acc (saveM a x m)) 137), (A.ub, blk (cU (saveM a x m).u) 178), (A.rb, blk (List.map (Value.int .u8) (saveM a x m).ram ++ A.rs) 5)]) call_360 rfl (fun w hw _ => save_fn A acc m h a x ha hx w hw)) rfl ?_
    refine ZEU ?_
    refine ZAb ?_
    exact EN (List.Sublist.refl _) ⟨rfl, by rw [show pokeM a x m = saveM a x m from by unfold pokeM; rw [if_neg o_m, if_neg y_bU, if_pos o_m]]⟩
   ·refine ZB4 ?_
    refine KC (fun q3 q3n => ?_) (fun q3 q3n => ?_)
    ·refine ZAo ?_
     refine ZD7 ?_
     refine L_3 ?_
     refine RY (idx_array1 (a % 8192).toNat rfl rfl rfl o_m o_m) rfl ?_
     refine RZ (x_storeTo (l' := cMm A acc { m with work := m.work.set (a % 8192).toNat x }) 0 rfl rfl rfl rfl rfl rfl y_bg (putM_work h.ln o_m _)) rfl ?_
     refine ZAH ?_
     exact EN (List.Sublist.refl _) ⟨rfl, by rw [show pokeM a x m = { m with work := m.work.set (a % 8192).toNat x } from by unfold pokeM; rw [if_neg o_m, if_neg y_bU, if_neg o_m, if_pos o_m]]⟩
    ·refine ZB4 ?_
     refine KC (fun q4 q4n => ?_) (fun q4 q4n => ?_)
     ·refine ZAP ?_
      refine ZBQ ?_
      refine RX (x_callMA (F := []) (A := [(A.mb, blk (cMm A acc m) 137)]) (G := [(A.ub, blk (cU m.u) 178), (A.rb, blk (List.map (Value.int .u8) m.ram ++ A.rs) 5)]) (R := fun v H => v = .tuple #[] ∧ H = [(A.mb, blk (cMm A acc (setDeviceM a x m)) 137)]) call_361 rfl (fun w hw _ => setDevice_fn A acc m h a x o_m hx w hw)) rfl ?_
      refine ZEU ?_
      refine ZAb ?_
      exact EN (List.Sublist.refl _) ⟨rfl, by rw [show pokeM a x m = setDeviceM a x m from by unfold pokeM; rw [if_neg o_m, if_neg y_bU, if_neg o_m, if_neg o_m, if_neg o_m]]; rw [setDeviceM_u, setDeviceM_ram]⟩
     ·refine ZAx ?_
      exact EN (List.Sublist.refl _) ⟨rfl, by rw [show pokeM a x m = m from by unfold pokeM; rw [if_neg o_m, if_neg y_bU, if_neg o_m, if_neg o_m, if_pos o_m]]⟩
end Go.Proofs.YtldehodcfajpjaaGreat
