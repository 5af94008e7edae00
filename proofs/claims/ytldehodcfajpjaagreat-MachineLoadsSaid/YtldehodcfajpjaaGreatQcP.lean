/- Keys. -/
import Derived.Test.YtldehodcfajpjaaGreatQcE
import Derived.Test.YtldehodcfajpjaaGreatQcL
set_option linter.unusedSimpArgs false
set_option linter.unusedVariables false
set_option maxRecDepth 100000
namespace Go.Proofs.YtldehodcfajpjaaGreat
open Go Go.VV Go.Proofs Go.RowKit
theorem sig_fn (t : Tm) (h : t.Ok) (w : World) : Does Tryz.prog 314 [.agg (cTm t).toArray] w [] (fun v H => H = [] ∧ v = .bool (sigT t)) := by
 obtain ⟨cnt, tima, tma, tac, over⟩ := t
 obtain ⟨k1, k2, k3, k4⟩ := h
 dsimp only at k1 k2 k3 k4
 refine does_of Tryz.func314 rfl rfl rfl (St.refl w) ?_
 refine ZAA ?_
 refine ZBI fun b0 => ?_
 refine ZAB ?_
 refine ZAA ?_
 refine RY (light_array (l := [.int .i64 9, .int .i64 3, .int .i64 5, .int .i64 7]) rfl rfl rfl y_g) rfl ?_
 refine ZAq fun b1 => ?_
 refine ZAO ?_
 refine ZA0 ?_
 rcases (show tac % 4 = 0 ∨ tac % 4 = 1 ∨ tac % 4 = 2 ∨ tac % 4 = 3 by omega) with hq | hq | hq | hq
 ·refine ZCr ?_
  refine DW rfl (l_and rfl rfl) rfl y_d4 ?_
  refine RD ?_
  refine KE (fun q0 q0n => ?_) (fun q0 q0n => ?_)
  ·refine D_4 ?_
   refine DW (v := (.int .u8 0)) rfl (l_and rfl rfl) rfl ((as_mask 2 4 y_c rfl o_m (show _ < (256 : Int) by omega) (show _ < (256 : Int) by decide)).trans (congrArg _ hq)) ?_
   refine DY rfl (idx_array1 0 rfl rfl rfl rfl y_c) rfl ?_
   refine RDo ?_
   refine DW (v := (.int .u16 (cnt / 512))) rfl (shr_pos rfl rfl y_c) rfl (as_shr 512 y_c y_c) ?_
   refine DW rfl (l_and rfl rfl) rfl y_d3 ?_
   iterate 3 refine RD ?_
   refine ZBe ?_
   exact E0 rfl ⟨rfl, (congrArg Value.bool (sig_on (t := ⟨cnt, tima, tma, tac, over⟩) 512 q0n (by rw [bit_at (t := ⟨cnt, tima, tma, tac, over⟩) (n := 9) hq y_c]; rfl)))⟩
  ·refine D_12 ?_
   refine ZBe ?_
   exact E0 rfl ⟨rfl, (congrArg Value.bool (sig_off (t := ⟨cnt, tima, tma, tac, over⟩) o_m))⟩
 ·refine ZCr ?_
  refine DW rfl (l_and rfl rfl) rfl y_d4 ?_
  refine RD ?_
  refine KE (fun q0 q0n => ?_) (fun q0 q0n => ?_)
  ·refine D_4 ?_
   refine DW (v := (.int .u8 1)) rfl (l_and rfl rfl) rfl ((as_mask 2 4 y_c rfl o_m (show _ < (256 : Int) by omega) (show _ < (256 : Int) by decide)).trans (congrArg _ hq)) ?_
   refine DY rfl (idx_array1 1 rfl rfl rfl rfl y_c) rfl ?_
   refine RDo ?_
   refine DW (v := (.int .u16 (cnt / 8))) rfl (shr_pos rfl rfl y_c) rfl (as_shr 8 y_c y_c) ?_
   refine DW rfl (l_and rfl rfl) rfl y_d3 ?_
   iterate 3 refine RD ?_
   refine ZBe ?_
   exact E0 rfl ⟨rfl, (congrArg Value.bool (sig_on (t := ⟨cnt, tima, tma, tac, over⟩) 8 q0n (by rw [bit_at (t := ⟨cnt, tima, tma, tac, over⟩) (n := 3) hq y_c]; rfl)))⟩
  ·refine D_12 ?_
   refine ZBe ?_
   exact E0 rfl ⟨rfl, (congrArg Value.bool (sig_off (t := ⟨cnt, tima, tma, tac, over⟩) o_m))⟩
 ·refine ZCr ?_
  refine DW rfl (l_and rfl rfl) rfl y_d4 ?_
  refine RD ?_
  refine KE (fun q0 q0n => ?_) (fun q0 q0n => ?_)
  ·refine D_4 ?_
   refine DW (v := (.int .u8 2)) rfl (l_and rfl rfl) rfl ((as_mask 2 4 y_c rfl o_m (show _ < (256 : Int) by omega) (show _ < (256 : Int) by decide)).trans (congrArg _ hq)) ?_
   refine DY rfl (idx_array1 2 rfl rfl rfl rfl y_c) rfl ?_
   refine RDo ?_
   refine DW (v := (.int .u16 (cnt / 32))) rfl (shr_pos rfl rfl y_c) rfl (as_shr 32 y_c y_c) ?_
   refine DW rfl (l_and rfl rfl) rfl y_d3 ?_
   iterate 3 refine RD ?_
   refine ZBe ?_
   exact E0 rfl ⟨rfl, (congrArg Value.bool (sig_on (t := ⟨cnt, tima, tma, tac, over⟩) 32 q0n (by rw [bit_at (t := ⟨cnt, tima, tma, tac, over⟩) (n := 5) hq y_c]; rfl)))⟩
  ·refine D_12 ?_
   refine ZBe ?_
   exact E0 rfl ⟨rfl, (congrArg Value.bool (sig_off (t := ⟨cnt, tima, tma, tac, over⟩) o_m))⟩
 ·refine ZCr ?_
  refine DW rfl (l_and rfl rfl) rfl y_d4 ?_
  refine RD ?_
  refine KE (fun q0 q0n => ?_) (fun q0 q0n => ?_)
  ·refine D_4 ?_
   refine DW (v := (.int .u8 3)) rfl (l_and rfl rfl) rfl ((as_mask 2 4 y_c rfl o_m (show _ < (256 : Int) by omega) (show _ < (256 : Int) by decide)).trans (congrArg _ hq)) ?_
   refine DY rfl (idx_array1 3 rfl rfl rfl rfl y_c) rfl ?_
   refine RDo ?_
   refine DW (v := (.int .u16 (cnt / 128))) rfl (shr_pos rfl rfl y_c) rfl (as_shr 128 y_c y_c) ?_
   refine DW rfl (l_and rfl rfl) rfl y_d3 ?_
   iterate 3 refine RD ?_
   refine ZBe ?_
   exact E0 rfl ⟨rfl, (congrArg Value.bool (sig_on (t := ⟨cnt, tima, tma, tac, over⟩) 128 q0n (by rw [bit_at (t := ⟨cnt, tima, tma, tac, over⟩) (n := 7) hq y_c]; rfl)))⟩
  ·refine D_12 ?_
   refine ZBe ?_
   exact E0 rfl ⟨rfl, (congrArg Value.bool (sig_off (t := ⟨cnt, tima, tma, tac, over⟩) o_m))⟩
theorem stepC_fn (b : Nat) (t : Tm) (h : t.Ok) (w : World) (hst : St w [b] [(b, blk (cTm t) 124)] w) : Does Tryz.prog 350 [.pointer (some ⟨b, 0, none⟩)] w [b] (fun v H => v = .tuple #[] ∧ H = [(b, blk (cTm (stepTm t)) 124)]) := by
 obtain ⟨cnt, tima, tma, tac, over⟩ := t
 obtain ⟨k1, k2, k3, k4⟩ := h
 dsimp only at k1 k2 k3 k4
 refine does_of Tryz.func350 rfl rfl rfl hst ?_
 refine ZBj ?_
 refine RW (l_add rfl rfl) rfl y_r ?_
 refine L_2 ?_
 refine ZAO ?_
 exact EN (List.Sublist.refl _) ⟨rfl, rfl⟩
theorem zeroC_fn (b : Nat) (t : Tm) (h : t.Ok) (w : World) (hst : St w [b] [(b, blk (cTm t) 124)] w) : Does Tryz.prog 316 [.pointer (some ⟨b, 0, none⟩)] w [b] (fun v H => v = .tuple #[] ∧ H = [(b, blk (cTm (zeroTm t)) 124)]) := by
 obtain ⟨cnt, tima, tma, tac, over⟩ := t
 obtain ⟨k1, k2, k3, k4⟩ := h
 dsimp only at k1 k2 k3 k4
 refine does_of Tryz.func316 rfl rfl rfl hst ?_
 refine ZB2 ?_
 refine ZAO ?_
 exact EN (List.Sublist.refl _) ⟨rfl, rfl⟩
theorem tacC_fn (b : Nat) (t : Tm) (h : t.Ok) (x : Int) (hx : 0 ≤ x ∧ x < 256) (xb : Nat) (w : World) (hc : w.cell? ⟨xb, 0, none⟩ = some (.int .u8 x)) (hxb : xb ≠ b) (hst : St w [b] [(b, blk (cTm t) 124)] w) : Does Tryz.prog 317 [.pointer (some ⟨b, 0, none⟩), .pointer (some ⟨xb, 0, none⟩)] w [b] (fun v H => v = .tuple #[] ∧ H = [(b, blk (cTm (tacTm x t)) 124)]) := by
 obtain ⟨cnt, tima, tma, tac, over⟩ := t
 obtain ⟨k1, k2, k3, k4⟩ := h
 dsimp only at k1 k2 k3 k4
 refine does_of Tryz.func317 rfl rfl rfl hst ?_
 refine ZAZ ?_
 refine RZ (x_load rfl rfl (at_old hc (by simp [hxb]))) rfl ?_
 refine RW (l_and rfl rfl) rfl y_dR ?_
 refine L_2 ?_
 refine ZAO ?_
 exact EN (List.Sublist.refl _) ⟨rfl, rfl⟩
theorem stepCh_fn (t : Tm) (h : t.Ok) (w : World) : Does Tryz.prog 315 [.agg (cTm t).toArray, .func (.func 350) #[] #[]] w [] (fun v H => H = [] ∧ v = .agg (cTm (chT (stepTm) t)).toArray) := by
 obtain ⟨cnt, tima, tma, tac, over⟩ := t
 obtain ⟨k1, k2, k3, k4⟩ := h
 dsimp only at k1 k2 k3 k4
 refine does_of Tryz.func315 rfl rfl rfl (St.refl w) ?_
 refine ZAA ?_
 refine ZBI fun b0 => ?_
 refine ZAq fun b1 => ?_
 refine ZAb ?_
 refine ZEG ?_
 refine ZEl ?_
 refine RX (x_callVT (F := [(b1, _)]) (A := [(b0, blk [.int .u16 cnt, .int .u8 tima, .int .u8 tma, .int .u8 tac, .bool over] 124)]) (B := []) (C := []) (R := fun v H => v = .tuple #[] ∧ H = [(b0, blk (cTm (stepTm ⟨cnt, tima, tma, tac, over⟩)) 124)]) rfl call_350 rfl ?_) rfl ?_
 ·exact fun w hw => stepC_fn b0 ⟨cnt, tima, tma, tac, over⟩ ⟨k1, k2, k3, k4⟩ w (St.lentV hw)
 refine ZCN ?_
 refine ZAb ?_
 refine ZA1 ?_
 refine KL (fun q0 q0n => ?_) (fun q0 q0n => ?_)
 ·refine ZAm ?_
  refine RLv call_314 (fun w hw => sig_fn (stepTm ⟨cnt, tima, tma, tac, over⟩) (Tm.Ok.step (t := ⟨cnt, tima, tma, tac, over⟩) ⟨k1, k2, k3, k4⟩) w) ?_
  refine ZAE ?_
  refine KC (fun q1 q1n => ?_) (fun q1 q1n => ?_)
  ·refine ZAU ?_
   refine ZCs ?_
   refine ZBp ?_
   refine ZAo ?_
   refine KL (fun q2 q2n => ?_) (fun q2 q2n => ?_)
   ·refine L_5 ?_
    refine ZAO ?_
    refine ZDZ ?_
    refine ZA4 ?_
    have hov : over = true := q2
    subst hov
    have e1 : incT (stepTm ⟨cnt, tima, tma, tac, true⟩) = chT (stepTm) ⟨cnt, tima, tma, tac, true⟩ := fall_yes (t := (stepTm ⟨cnt, tima, tma, tac, true⟩)) q0 y_bb
    exact l_end0 (fun w hw => rets_cell rfl rfl rfl (row_own (b := b1) m_m w hw)) ⟨rfl, y_bO⟩
   ·refine L_5 ?_
    refine ZAO ?_
    refine ZDZ ?_
    refine ZA4 ?_
    have hov : over = false := q2
    subst hov
    have e1 : incT (stepTm ⟨cnt, tima, tma, tac, false⟩) = chT (stepTm) ⟨cnt, tima, tma, tac, false⟩ := fall_yes (t := (stepTm ⟨cnt, tima, tma, tac, false⟩)) q0 y_bb
    exact l_end0 (fun w hw => rets_cell rfl rfl rfl (row_own (b := b1) m_m w hw)) ⟨rfl, y_bO⟩
  ·refine ZAx ?_
   refine ZDZ ?_
   refine ZA4 ?_
   have e1 : (stepTm ⟨cnt, tima, tma, tac, over⟩) = chT (stepTm) ⟨cnt, tima, tma, tac, over⟩ := fall_no (t := (stepTm ⟨cnt, tima, tma, tac, over⟩)) (.inr y_bb)
   exact l_end0 (fun w hw => rets_cell rfl rfl rfl (row_own (b := b1) m_m w hw)) ⟨rfl, y_bO⟩
 ·refine L_4 ?_
  refine ZBL ?_
  refine ZDZ ?_
  refine ZA4 ?_
  have e1 : (stepTm ⟨cnt, tima, tma, tac, over⟩) = chT (stepTm) ⟨cnt, tima, tma, tac, over⟩ := fall_no (t := (stepTm ⟨cnt, tima, tma, tac, over⟩)) (.inl q0)
  exact l_end0 (fun w hw => rets_cell rfl rfl rfl (row_own (b := b1) m_m w hw)) ⟨rfl, y_bO⟩
theorem zeroCh_fn (t : Tm) (h : t.Ok) (w : World) : Does Tryz.prog 315 [.agg (cTm t).toArray, .func (.func 316) #[] #[]] w [] (fun v H => H = [] ∧ v = .agg (cTm (chT (zeroTm) t)).toArray) := by
 obtain ⟨cnt, tima, tma, tac, over⟩ := t
 obtain ⟨k1, k2, k3, k4⟩ := h
 dsimp only at k1 k2 k3 k4
 refine does_of Tryz.func315 rfl rfl rfl (St.refl w) ?_
 refine ZAA ?_
 refine ZBI fun b0 => ?_
 refine ZAq fun b1 => ?_
 refine ZAb ?_
 refine ZEG ?_
 refine ZEl ?_
 refine RX (x_callVT (F := [(b1, _)]) (A := [(b0, blk [.int .u16 cnt, .int .u8 tima, .int .u8 tma, .int .u8 tac, .bool over] 124)]) (B := []) (C := []) (R := fun v H => v = .tuple #[] ∧ H = [(b0, blk (cTm (zeroTm ⟨cnt, tima, tma, tac, over⟩)) 124)]) rfl call_316 rfl ?_) rfl ?_
 ·exact fun w hw => zeroC_fn b0 ⟨cnt, tima, tma, tac, over⟩ ⟨k1, k2, k3, k4⟩ w (St.lentV hw)
 refine ZCN ?_
 refine ZAb ?_
 refine ZA1 ?_
 refine KL (fun q0 q0n => ?_) (fun q0 q0n => ?_)
 ·refine ZAm ?_
  refine RLv call_314 (fun w hw => sig_fn (zeroTm ⟨cnt, tima, tma, tac, over⟩) (Tm.Ok.zero (t := ⟨cnt, tima, tma, tac, over⟩) ⟨k1, k2, k3, k4⟩) w) ?_
  refine ZAE ?_
  refine KC (fun q1 q1n => ?_) (fun q1 q1n => ?_)
  ·refine ZAU ?_
   refine ZCs ?_
   refine ZBp ?_
   refine ZAo ?_
   refine KL (fun q2 q2n => ?_) (fun q2 q2n => ?_)
   ·refine L_5 ?_
    refine ZAO ?_
    refine ZDZ ?_
    refine ZA4 ?_
    have hov : over = true := q2
    subst hov
    have e1 : incT (zeroTm ⟨cnt, tima, tma, tac, true⟩) = chT (zeroTm) ⟨cnt, tima, tma, tac, true⟩ := fall_yes (t := (zeroTm ⟨cnt, tima, tma, tac, true⟩)) q0 y_bb
    exact l_end0 (fun w hw => rets_cell rfl rfl rfl (row_own (b := b1) m_m w hw)) ⟨rfl, y_bO⟩
   ·refine L_5 ?_
    refine ZAO ?_
    refine ZDZ ?_
    refine ZA4 ?_
    have hov : over = false := q2
    subst hov
    have e1 : incT (zeroTm ⟨cnt, tima, tma, tac, false⟩) = chT (zeroTm) ⟨cnt, tima, tma, tac, false⟩ := fall_yes (t := (zeroTm ⟨cnt, tima, tma, tac, false⟩)) q0 y_bb
    exact l_end0 (fun w hw => rets_cell rfl rfl rfl (row_own (b := b1) m_m w hw)) ⟨rfl, y_bO⟩
  ·refine ZAx ?_
   refine ZDZ ?_
   refine ZA4 ?_
   have e1 : (zeroTm ⟨cnt, tima, tma, tac, over⟩) = chT (zeroTm) ⟨cnt, tima, tma, tac, over⟩ := fall_no (t := (zeroTm ⟨cnt, tima, tma, tac, over⟩)) (.inr y_bb)
   exact l_end0 (fun w hw => rets_cell rfl rfl rfl (row_own (b := b1) m_m w hw)) ⟨rfl, y_bO⟩
 ·refine L_4 ?_
  refine ZBL ?_
  refine ZDZ ?_
  refine ZA4 ?_
  have e1 : (zeroTm ⟨cnt, tima, tma, tac, over⟩) = chT (zeroTm) ⟨cnt, tima, tma, tac, over⟩ := fall_no (t := (zeroTm ⟨cnt, tima, tma, tac, over⟩)) (.inl q0)
  exact l_end0 (fun w hw => rets_cell rfl rfl rfl (row_own (b := b1) m_m w hw)) ⟨rfl, y_bO⟩
theorem tacCh_fn (t : Tm) (h : t.Ok) (x : Int) (hx : 0 ≤ x ∧ x < 256) (xb : Nat) (w : World) (hr : Row w xb 0 [.int .u8 x]) : Does Tryz.prog 315 [.agg (cTm t).toArray, .func (.func 317) #[] #[.pointer (some ⟨xb, 0, none⟩)]] w [] (fun v H => H = [] ∧ v = .agg (cTm (chT (tacTm x) t)).toArray) := by
 obtain ⟨cnt, tima, tma, tac, over⟩ := t
 obtain ⟨k1, k2, k3, k4⟩ := h
 dsimp only at k1 k2 k3 k4
 refine does_of Tryz.func315 rfl rfl rfl (St.refl w) ?_
 refine ZAA ?_
 refine ZBI fun b0 => ?_
 refine ZAq fun b1 => ?_
 refine ZAb ?_
 refine ZEG ?_
 refine ZEl ?_
 refine RX (x_callVT (F := [(b1, _)]) (A := [(b0, blk [.int .u16 cnt, .int .u8 tima, .int .u8 tma, .int .u8 tac, .bool over] 124)]) (B := []) (C := [.pointer (some ⟨xb, 0, none⟩)]) (R := fun v H => v = .tuple #[] ∧ H = [(b0, blk (cTm (tacTm x ⟨cnt, tima, tma, tac, over⟩)) 124)]) rfl call_317 rfl ?_) rfl ?_
 ·exact fun w hw => tacC_fn b0 ⟨cnt, tima, tma, tac, over⟩ ⟨k1, k2, k3, k4⟩ x hx xb w ((row_old hr y_z w hw) 0 _ rfl) (hr.apart (Nat.succ_pos _) hw (.head _)) (St.lentV hw)
 refine ZCN ?_
 refine ZAb ?_
 refine ZA1 ?_
 refine KL (fun q0 q0n => ?_) (fun q0 q0n => ?_)
 ·refine ZAm ?_
  refine RLv call_314 (fun w hw => sig_fn (tacTm x ⟨cnt, tima, tma, tac, over⟩) (Tm.Ok.tac_ (t := ⟨cnt, tima, tma, tac, over⟩) ⟨k1, k2, k3, k4⟩ x) w) ?_
  refine ZAE ?_
  refine KC (fun q1 q1n => ?_) (fun q1 q1n => ?_)
  ·refine ZAU ?_
   refine ZCs ?_
   refine ZBp ?_
   refine ZAo ?_
   refine KL (fun q2 q2n => ?_) (fun q2 q2n => ?_)
   ·refine L_5 ?_
    refine ZAO ?_
    refine ZDZ ?_
    refine ZA4 ?_
    have hov : over = true := q2
    subst hov
    have e1 : incT (tacTm x ⟨cnt, tima, tma, tac, true⟩) = chT (tacTm x) ⟨cnt, tima, tma, tac, true⟩ := fall_yes (t := (tacTm x ⟨cnt, tima, tma, tac, true⟩)) q0 y_bb
    exact l_end0 (fun w hw => rets_cell rfl rfl rfl (row_own (b := b1) m_m w hw)) ⟨rfl, y_bO⟩
   ·refine L_5 ?_
    refine ZAO ?_
    refine ZDZ ?_
    refine ZA4 ?_
    have hov : over = false := q2
    subst hov
    have e1 : incT (tacTm x ⟨cnt, tima, tma, tac, false⟩) = chT (tacTm x) ⟨cnt, tima, tma, tac, false⟩ := fall_yes (t := (tacTm x ⟨cnt, tima, tma, tac, false⟩)) q0 y_bb
    exact l_end0 (fun w hw => rets_cell rfl rfl rfl (row_own (b := b1) m_m w hw)) ⟨rfl, y_bO⟩
  ·refine ZAx ?_
   refine ZDZ ?_
   refine ZA4 ?_
   have e1 : (tacTm x ⟨cnt, tima, tma, tac, over⟩) = chT (tacTm x) ⟨cnt, tima, tma, tac, over⟩ := fall_no (t := (tacTm x ⟨cnt, tima, tma, tac, over⟩)) (.inr y_bb)
   exact l_end0 (fun w hw => rets_cell rfl rfl rfl (row_own (b := b1) m_m w hw)) ⟨rfl, y_bO⟩
 ·refine L_4 ?_
  refine ZBL ?_
  refine ZDZ ?_
  refine ZA4 ?_
  have e1 : (tacTm x ⟨cnt, tima, tma, tac, over⟩) = chT (tacTm x) ⟨cnt, tima, tma, tac, over⟩ := fall_no (t := (tacTm x ⟨cnt, tima, tma, tac, over⟩)) (.inl q0)
  exact l_end0 (fun w hw => rets_cell rfl rfl rfl (row_own (b := b1) m_m w hw)) ⟨rfl, y_bO⟩
theorem tickTm_fn (t : Tm) (h : t.Ok) (w : World) : Does Tryz.prog 341 [.agg (cTm t).toArray] w [] (fun v H => H = [] ∧ v = .tuple #[.agg (cTm (tickTm t)).toArray, .bool t.over]) := by
 obtain ⟨cnt, tima, tma, tac, over⟩ := t
 obtain ⟨k1, k2, k3, k4⟩ := h
 dsimp only at k1 k2 k3 k4
 refine does_of Tryz.func341 rfl rfl rfl (St.refl w) ?_
 refine ZAA ?_
 refine ZBI fun b0 => ?_
 refine ZAq fun b1 => ?_
 refine ZAB ?_
 refine ZA6 ?_
 refine ZAb ?_
 refine ZAG ?_
 refine ZAB ?_
 refine KC (fun q0 q0n => ?_) (fun q0 q0n => ?_)
 ·refine ZB2 ?_
  refine RZ s_t rfl ?_
  refine ZBp ?_
  refine ZDZ ?_
  refine RLv call_315 (fun w hw => stepCh_fn ⟨cnt, tma, tma, tac, false⟩ ⟨k1, k3, k3, k4⟩ w) ?_
  refine Rl ?_
  refine ZBR ?_
  have hov : over = true := q0
  subst hov
  exact l_end0 (fun w hw => rets_cell2 rfl rfl rfl (row_own (b := b1) m_m w hw) rfl) ⟨rfl, rfl⟩
 ·refine ZAx ?_
  refine ZDZ ?_
  refine RLv call_315 (fun w hw => stepCh_fn ⟨cnt, tima, tma, tac, over⟩ ⟨k1, k2, k3, k4⟩ w) ?_
  refine Rl ?_
  refine ZBR ?_
  have hov : over = false := q0
  subst hov
  exact l_end0 (fun w hw => rets_cell2 rfl rfl rfl (row_own (b := b1) m_m w hw) rfl) ⟨rfl, rfl⟩
theorem readTm_fn (t : Tm) (h : t.Ok) (n : Int) (w : World) : Does Tryz.prog 131 [.agg (cTm t).toArray, .int .i64 n] w [] (fun v H => H = [] ∧ v = .int .u8 (readTm n t)) := by
 obtain ⟨cnt, tima, tma, tac, over⟩ := t
 obtain ⟨k1, k2, k3, k4⟩ := h
 dsimp only at k1 k2 k3 k4
 refine does_of Tryz.func131 rfl rfl rfl (St.refl w) ?_
 refine ZAA ?_
 refine ZBI fun b0 => ?_
 refine ZAB ?_
 refine ZAG ?_
 refine ZBO ?_
 refine ZAS ?_
 refine KC (fun q0 q0n => ?_) (fun q0 q0n => ?_)
 ·refine ZAU ?_
  refine RW (shr_pos rfl rfl y_c) rfl (as_shr 256 y_c y_c) ?_
  refine RW (l_conv rfl rfl rfl) rfl y_o ?_
  refine ZAI ?_
  exact E0 rfl ⟨rfl, y_0⟩
 ·refine ZAS ?_
  refine KC (fun q1 q1n => ?_) (fun q1 q1n => ?_)
  ·refine ZA6 ?_
   refine ZAb ?_
   refine c_ret ?_
   exact E0 rfl ⟨rfl, y_0⟩
  ·refine ZAS ?_
   refine KC (fun q2 q2n => ?_) (fun q2 q2n => ?_)
   ·refine ZA6 ?_
    refine ZAb ?_
    refine c_ret ?_
    exact E0 rfl ⟨rfl, y_0⟩
   ·refine ZAS ?_
    refine KC (fun q3 q3n => ?_) (fun q3 q3n => ?_)
    ·refine ZAU ?_
     refine RW (v := (.int .u8 (248 + tac % 8))) (l_or rfl rfl) rfl (congrArg (Value.int .u8) (or248_law k4)) ?_
     refine ZAI ?_
     exact E0 rfl ⟨rfl, y_0⟩
    ·refine ZAx ?_
     refine ZAY ?_
     exact E0 rfl ⟨rfl, y_0⟩
theorem writeTm_fn (t : Tm) (h : t.Ok) (n x : Int) (hx : 0 ≤ x ∧ x < 256) (w : World) : Does Tryz.prog 313 [.agg (cTm t).toArray, .int .i64 n, .int .u8 x] w [] (fun v H => H = [] ∧ v = .agg (cTm (writeTm n x t)).toArray) := by
 obtain ⟨cnt, tima, tma, tac, over⟩ := t
 obtain ⟨k1, k2, k3, k4⟩ := h
 dsimp only at k1 k2 k3 k4
 refine does_of Tryz.func313 rfl rfl rfl (St.refl w) ?_
 refine ZAA ?_
 refine ZBI fun b0 => ?_
 refine RX (x_box (l := [.int .u8 x]) rfl rfl) rfl ?_
 rintro _ _ ⟨b1, rfl, rfl⟩
 refine ZD4 fun b2 => ?_
 refine ZAb ?_
 refine ZAG ?_
 refine ZBO ?_
 refine ZAS ?_
 refine KC (fun q0 q0n => ?_) (fun q0 q0n => ?_)
 ·refine ZDZ ?_
  refine RLv call_315 (fun w hw => zeroCh_fn ⟨cnt, tima, tma, tac, over⟩ ⟨k1, k2, k3, k4⟩ w) ?_
  exact ZCC
 ·refine ZAS ?_
  refine KC (fun q1 q1n => ?_) (fun q1 q1n => ?_)
  ·refine ZAo ?_
   refine RZ s_t rfl ?_
   refine ZBp ?_
   refine ZDZ ?_
   exact ZCC
  ·refine ZAS ?_
   refine KC (fun q2 q2n => ?_) (fun q2 q2n => ?_)
   ·refine ZAo ?_
    refine ZAO ?_
    refine ZDZ ?_
    exact ZCC
   ·refine ZAS ?_
    refine KC (fun q3 q3n => ?_) (fun q3 q3n => ?_)
    ·refine ZDZ ?_
     refine RW (v := (.func (.func 317) #[] #[.pointer (some ⟨b1, 0, none⟩)])) rfl rfl y_cc ?_
     refine RLv call_315 (fun w hw => tacCh_fn ⟨cnt, tima, tma, tac, over⟩ ⟨k1, k2, k3, k4⟩ x hx b1 w (row_own (b := b1) (l := [.int .u8 x]) m_m w hw)) ?_
     exact ZCC
    ·refine ZAx ?_
     refine ZDZ ?_
     exact ZCC
theorem tickPt_fn (p : Pt) (h : p.Ok) (w : World) : Does Tryz.prog 342 [.agg (cPt p).toArray] w [] (fun v H => H = [] ∧ v = .tuple #[.agg (cPt (tickPt p)).toArray, .bool (irqPt p)]) := by
 obtain ⟨data, control, last, bits, count, sent⟩ := p
 obtain ⟨k1, k2, k3, k4, k5, k6⟩ := h
 dsimp only at k1 k2 k3 k4 k5 k6
 refine does_of Tryz.func342 rfl rfl rfl (St.refl w) ?_
 refine ZAA ?_
 refine ZCD fun b0 => ?_
 refine ZAq fun b1 => ?_
 refine ZAB ?_
 refine ZD6 ?_
 refine ZAb ?_
 refine KC (fun q0 q0n => ?_) (fun q0 q0n => ?_)
 ·refine ZDw ?_
  refine ZBR ?_
  have e1 : irqPt ⟨data, control, last, bits, count, sent⟩ = false := by unfold irqPt; dsimp only; simp only [decide_eq_true_eq, decide_eq_false_iff_not]; omega
  exact l_end0 (fun w hw => rets_cell2 rfl rfl rfl (row_own (b := b1) m_m w hw) rfl) ⟨rfl, y_7⟩
 ·refine ZAx ?_
  refine ZCd ?_
  refine ZBd ?_
  refine ZBp ?_
  refine ZA6 ?_
  refine ZAb ?_
  refine KC (fun q1 q1n => ?_) (fun q1 q1n => ?_)
  ·refine ZDw ?_
   refine ZBR ?_
   have e1 : irqPt ⟨data, control, last, bits, count, sent⟩ = false := by unfold irqPt; dsimp only; simp only [decide_eq_true_eq, decide_eq_false_iff_not]; omega
   exact l_end0 (fun w hw => rets_cell2 rfl rfl rfl (row_own (b := b1) m_m w hw) rfl) ⟨rfl, y_7⟩
  ·refine ZAx ?_
   refine ZAU ?_
   refine RW (shl_pos rfl rfl y_c) rfl y_ee ?_
   refine RW (v := (.int .u8 (data % 128 * 2 + 1))) (l_or rfl rfl) rfl (congrArg (Value.int .u8) (shl1_law k1)) ?_
   refine RLa ?_
   refine RZ s_t rfl ?_
   refine ZBp ?_
   refine ZCd ?_
   refine ZCV ?_
   refine ZBp ?_
   refine ZA6 ?_
   refine ZAb ?_
   refine KC (fun q2 q2n => ?_) (fun q2 q2n => ?_)
   ·refine ZDw ?_
    refine ZBR ?_
    have e1 : irqPt ⟨data, control, last, bits, count, sent⟩ = false := by unfold irqPt; dsimp only; simp only [decide_eq_true_eq, decide_eq_false_iff_not]; omega
    exact l_end0 (fun w hw => rets_cell2 rfl rfl rfl (row_own (b := b1) m_m w hw) rfl) ⟨rfl, y_7⟩
   ·refine ZAx ?_
    refine ZAU ?_
    refine RW (v := (.int .u8 (control % 128))) (l_andn rfl rfl) rfl (congrArg (Value.int .u8) (low7_law k2)) ?_
    refine ZBp ?_
    refine ZDw ?_
    refine ZBR ?_
    have e1 : irqPt ⟨data, control, last, bits, count, sent⟩ = true := by unfold irqPt; dsimp only; simp only [decide_eq_true_eq, decide_eq_false_iff_not]; omega
    exact l_end0 (fun w hw => rets_cell2 rfl rfl rfl (row_own (b := b1) m_m w hw) rfl) ⟨rfl, y_7⟩
theorem beginPt_fn (p : Pt) (h : p.Ok) (w : World) : Does Tryz.prog 320 [.agg (cPt p).toArray] w [] (fun v H => H = [] ∧ v = .agg (cPt (beginPt p)).toArray) := by
 obtain ⟨data, control, last, bits, count, sent⟩ := p
 obtain ⟨k1, k2, k3, k4, k5, k6⟩ := h
 dsimp only at k1 k2 k3 k4 k5 k6
 refine does_of Tryz.func320 rfl rfl rfl (St.refl w) ?_
 refine ZAA ?_
 refine ZCD fun b0 => ?_
 refine ZAq fun b1 => ?_
 refine ZAb ?_
 refine ZA6 ?_
 refine RZ s_t rfl ?_
 refine RLa ?_
 refine RZ s_t rfl ?_
 refine ZBp ?_
 refine ZAU ?_
 refine ZBd ?_
 refine ZD7 ?_
 refine ZBp ?_
 refine ZDw ?_
 exact ZCm
theorem writePt_fn (p : Pt) (h : p.Ok) (n x : Int) (hx : 0 ≤ x ∧ x < 256) (w : World) : Does Tryz.prog 319 [.agg (cPt p).toArray, .int .i64 n, .int .u8 x] w [] (fun v H => H = [] ∧ v = .agg (cPt (writePt n x p)).toArray) := by
 obtain ⟨data, control, last, bits, count, sent⟩ := p
 obtain ⟨k1, k2, k3, k4, k5, k6⟩ := h
 dsimp only at k1 k2 k3 k4 k5 k6
 have hb := both_law hx
 refine does_of Tryz.func319 rfl rfl rfl (St.refl w) ?_
 refine ZAA ?_
 refine ZCD fun b0 => ?_
 refine ZAq fun b1 => ?_
 refine ZAb ?_
 refine ZAG ?_
 refine ZBO ?_
 refine ZAS ?_
 refine KC (fun q0 q0n => ?_) (fun q0 q0n => ?_)
 ·refine ZAo ?_
  refine ZAO ?_
  refine ZDw ?_
  exact ZDl
 ·refine ZAS ?_
  refine KC (fun q1 q1n => ?_) (fun q1 q1n => ?_)
  ·refine ZAV ?_
   refine RW (v := (.int .u8 (x / 128 * 128 + x % 2))) (l_and rfl rfl) rfl (congrArg (Value.int .u8) hb) ?_
   refine RLa ?_
   refine RZ s_t rfl ?_
   refine ZBp ?_
   refine ZA6 ?_
   refine ZAb ?_
   refine KC (fun q2 q2n => ?_) (fun q2 q2n => ?_)
   ·refine ZDw ?_
    refine RLv call_320 (fun w hw => beginPt_fn ⟨data, x / 128 * 128 + x % 2, last, 0, count, sent⟩ ⟨k1, y_d8, k3, y_d8, k5, k6⟩ w) ?_
    exact ZDl
   ·refine ZAx ?_
    refine ZDw ?_
    exact ZDl
  ·refine ZAx ?_
   refine ZDw ?_
   exact ZDl
theorem readPt_fn (p : Pt) (h : p.Ok) (n : Int) (w : World) : Does Tryz.prog 130 [.agg (cPt p).toArray, .int .i64 n] w [] (fun v H => H = [] ∧ v = .int .u8 (readPt n p)) := by
 obtain ⟨data, control, last, bits, count, sent⟩ := p
 obtain ⟨k1, k2, k3, k4, k5, k6⟩ := h
 dsimp only at k1 k2 k3 k4 k5 k6
 refine does_of Tryz.func130 rfl rfl rfl (St.refl w) ?_
 refine ZAA ?_
 refine ZCD fun b0 => ?_
 refine ZAB ?_
 refine ZAG ?_
 refine ZBO ?_
 refine ZAS ?_
 refine KC (fun q0 q0n => ?_) (fun q0 q0n => ?_)
 ·refine ZA6 ?_
  refine ZAb ?_
  refine c_ret ?_
  exact E0 rfl ⟨rfl, y_bB⟩
 ·refine ZAS ?_
  refine KC (fun q1 q1n => ?_) (fun q1 q1n => ?_)
  ·refine ZAU ?_
   refine RW (v := (.int .u8 (control / 128 * 128 + 126 + control % 2))) (l_or rfl rfl) rfl (congrArg (Value.int .u8) (or126_law k2)) ?_
   refine ZAI ?_
   exact E0 rfl ⟨rfl, y_bB⟩
  ·refine ZAx ?_
   refine ZAY ?_
   exact E0 rfl ⟨rfl, y_bB⟩
theorem busyCp_fn (c : Cp) (h : c.Ok) (w : World) : Does Tryz.prog 321 [.agg (cCp c).toArray] w [] (fun v H => H = [] ∧ v = .bool (busyCp c)) := by
 obtain ⟨page, left⟩ := c
 obtain ⟨k1, k2⟩ := h
 dsimp only at k1 k2
 refine does_of Tryz.func321 rfl rfl rfl (St.refl w) ?_
 refine ZDt ?_
 refine ZC8 fun b0 => ?_
 refine ZAB ?_
 refine ZBl ?_
 refine ZAb ?_
 refine c_ret ?_
 exact E0 rfl ⟨rfl, rfl⟩
theorem fromCp_fn (c : Cp) (h : c.Ok) (w : World) : Does Tryz.prog 351 [.agg (cCp c).toArray] w [] (fun v H => H = [] ∧ v = .int .u16 (fromCp c)) := by
 obtain ⟨page, left⟩ := c
 obtain ⟨k1, k2⟩ := h
 dsimp only at k1 k2
 refine does_of Tryz.func351 rfl rfl rfl (St.refl w) ?_
 refine ZDt ?_
 refine ZC8 fun b0 => ?_
 refine ZAB ?_
 refine ZD6 ?_
 refine ZAb ?_
 refine KC (fun q0 q0n => ?_) (fun q0 q0n => ?_)
 ·refine ZAU ?_
  refine RW (l_sub rfl rfl) rfl y_o ?_
  refine RW (l_conv rfl rfl rfl) rfl y_r ?_
  refine RW (shl_pos rfl rfl y_c) rfl y_dY ?_
  refine ZAI ?_
  exact E0 rfl ⟨rfl, y_cz⟩
 ·refine ZAx ?_
  refine ZAU ?_
  refine RW (l_conv rfl rfl rfl) rfl y_r ?_
  refine RW (shl_pos rfl rfl y_c) rfl y_dY ?_
  refine ZAI ?_
  exact E0 rfl ⟨rfl, y_cz⟩
theorem writeCp_fn (c : Cp) (x : Int) (w : World) : Does Tryz.prog 322 [.agg (cCp c).toArray, .int .u8 x] w [] (fun v H => H = [] ∧ v = .agg (cCp (writeCp x)).toArray) := by
 refine does_of Tryz.func322 rfl rfl rfl (St.refl w) ?_
 refine ZAA ?_
 refine RX (x_box (l := cCp c) rfl rfl) rfl ?_
 refine ZC8 fun b0 => ?_
 refine ZAq fun b1 => ?_
 refine ZAb ?_
 refine ZAV ?_
 refine RS ?_
 exact ZCm
theorem letsCp_fn (c : Cp) (h : c.Ok) (a : Int) (w : World) : Does Tryz.prog 348 [.agg (cCp c).toArray, .int .u16 a] w [] (fun v H => H = [] ∧ v = .bool (letsCp c a)) := by
 obtain ⟨page, left⟩ := c
 obtain ⟨k1, k2⟩ := h
 dsimp only at k1 k2
 refine does_of Tryz.func348 rfl rfl rfl (St.refl w) ?_
 refine ZDt ?_
 refine ZC8 fun b0 => ?_
 refine ZAB ?_
 refine ZDx ?_
 refine RLv call_321 (fun w hw => busyCp_fn ⟨page, left⟩ ⟨k1, k2⟩ w) ?_
 rw [show busyCp ⟨page, left⟩ = decide (0 < left) from rfl]
 refine Rl ?_
 refine KL (fun q0 q0n => ?_) (fun q0 q0n => ?_)
 ·refine L_4 ?_
  refine ZAb ?_
  refine c_ret ?_
  exact E0 rfl ⟨rfl, (congrArg Value.bool (by unfold letsCp busyCp; simp_all))⟩
 ·refine ZCE ?_
  refine c_ret ?_
  exact E0 rfl ⟨rfl, (congrArg Value.bool (by unfold letsCp busyCp; simp_all))⟩
theorem tickCp_fn (c : Cp) (h : c.Ok) (w : World) : Does Tryz.prog 343 [.agg (cCp c).toArray] w [] (fun v H => H = [] ∧ v = .tuple #[.agg (cCp (tickCp c)).toArray, .int .u16 (srcCp c), .int .i64 (dstCp c), .bool (busyCp c)]) := by
 obtain ⟨page, left⟩ := c
 obtain ⟨k1, k2⟩ := h
 dsimp only at k1 k2
 refine does_of Tryz.func343 rfl rfl rfl (St.refl w) ?_
 refine ZDt ?_
 refine ZC8 fun b0 => ?_
 refine ZAq fun b1 => ?_
 refine ZAR ?_
 refine ZAG ?_
 refine RZ (x_loadA rfl rfl rfl y_1) rfl ?_
 refine RLv call_321 (fun w hw => busyCp_fn ⟨page, left⟩ ⟨k1, k2⟩ w) ?_
 rw [show busyCp ⟨page, left⟩ = decide (0 < left) from rfl]
 refine ZAB ?_
 refine KC (fun q0 q0n => ?_) (fun q0 q0n => ?_)
 ·refine ZDx ?_
  refine RZ s_t rfl ?_
  refine ZAR ?_
  refine c_ret ?_
  have e0 : ¬ 0 < left := by simpa using q0
  exact l_end0 (fun w hw => rets_cell4 rfl rfl rfl (row_own (b := b1) m_m w hw) rfl rfl rfl) ⟨rfl, by unfold tickCp srcCp dstCp; simp only [if_neg e0, decide_eq_false e0]; rfl⟩
 ·refine ZAx ?_
  refine ZAU ?_
  refine ZCV ?_
  refine ZAB ?_
  refine ZDx ?_
  refine RLv call_351 (fun w hw => fromCp_fn ⟨page, left⟩ ⟨k1, k2⟩ w) ?_
  refine Rl ?_
  refine RW (l_conv rfl rfl rfl) rfl y_r ?_
  refine RW (v := (.int .u16 ((fromCp ⟨page, left⟩ + (160 - left)) % 65536))) rfl rfl ((as_u16m _).trans (congrArg _ o_m)) ?_
  refine ZEC ?_
  refine ZCV ?_
  refine ZBp ?_
  refine ZDx ?_
  refine L_2 ?_
  refine RZ s_t rfl ?_
  refine ZAR ?_
  refine c_ret ?_
  have e0 : 0 < left := by simpa using q0
  exact l_end0 (fun w hw => rets_cell4 rfl rfl rfl (row_own (b := b1) m_m w hw) rfl rfl rfl) ⟨rfl, by unfold tickCp srcCp dstCp; simp only [if_pos e0, decide_eq_true e0]; rfl⟩
theorem opens_fn (x : Int) (hx : 0 ≤ x ∧ x < 256) (w : World) : Does Tryz.prog 311 [.int .u8 x] w [] (fun v H => H = [] ∧ v = .bool (opensB x)) := by
 refine does_of Tryz.func311 rfl rfl rfl (St.refl w) ?_
 refine ZAa ?_
 refine ZAV ?_
 refine ZCk ?_
 exact ZBM
theorem oneB_fn (m : Bk) (h : m.Ok) (a x : Int) (ha : 0 ≤ a ∧ a < 32768) (hx : 0 ≤ x ∧ x < 256) (w : World) : Does Tryz.prog 307 [.agg (cBk m).toArray, .int .u16 a, .int .u8 x] w [] (fun v H => H = [] ∧ v = .agg (cBk (oneB a x m)).toArray) := by
 obtain ⟨kind, banks, ram, on, mode, low, high, last⟩ := m
 obtain ⟨k1, k2, k3, k4, k5, k6⟩ := h
 dsimp only at k1 k2 k3 k4 k5 k6
 refine does_of Tryz.func307 rfl rfl rfl (St.refl w) ?_
 refine ZAA ?_
 refine ZAk fun b0 => ?_
 refine ZAq fun b1 => ?_
 refine ZAb ?_
 refine ZA1 ?_
 refine RW (shr_pos rfl rfl y_c) rfl (as_shr 8192 y_c y_c) ?_
 refine ZAb ?_
 refine c_block ?_
 refine ZAS ?_
 refine KC (fun q0 q0n => ?_) (fun q0 q0n => ?_)
 ·refine ZD2 ?_
  refine ZBp ?_
  refine ZAp ?_
  exact ZCl
 ·refine ZAS ?_
  refine KC (fun q1 q1n => ?_) (fun q1 q1n => ?_)
  ·refine ZAZ ?_
   refine RW (l_and rfl rfl) rfl y_eq ?_
   refine ZAw ?_
   refine RY (light_max rfl rfl) rfl ?_
   refine ZBp ?_
   refine ZAp ?_
   exact ZCl
  ·refine ZAS ?_
   refine KC (fun q2 q2n => ?_) (fun q2 q2n => ?_)
   ·refine ZAZ ?_
    refine RW (l_and rfl rfl) rfl (by first | exact as_mask 2 4 y_c rfl o_m (show _ < (256 : Int) by omega) (show _ < (256 : Int) by decide) | rfl) ?_
    refine ZAw ?_
    refine ZBp ?_
    refine ZAp ?_
    exact ZCl
   ·refine ZAZ ?_
    refine RW (l_and rfl rfl) rfl y_dW ?_
    refine L_2 ?_
    refine ZAO ?_
    refine ZAp ?_
    exact ZCl
theorem twoB_fn (m : Bk) (h : m.Ok) (a x : Int) (ha : 0 ≤ a ∧ a < 32768) (hx : 0 ≤ x ∧ x < 256) (w : World) : Does Tryz.prog 308 [.agg (cBk m).toArray, .int .u16 a, .int .u8 x] w [] (fun v H => H = [] ∧ v = .agg (cBk (twoB a x m)).toArray) := by
 obtain ⟨kind, banks, ram, on, mode, low, high, last⟩ := m
 obtain ⟨k1, k2, k3, k4, k5, k6⟩ := h
 dsimp only at k1 k2 k3 k4 k5 k6
 refine does_of Tryz.func308 rfl rfl rfl (St.refl w) ?_
 refine ZAA ?_
 refine ZAk fun b0 => ?_
 refine ZAq fun b1 => ?_
 refine ZAb ?_
 refine ZAQ ?_
 refine ZB4 ?_
 refine KC (fun q0 q0n => ?_) (fun q0 q0n => ?_)
 ·refine ZAx ?_
  refine ZAp ?_
  exact ZDm
 ·refine ZAV ?_
  refine RW (l_and rfl rfl) rfl (by first | exact as_bit 8 y_c o_m (show _ < (65536 : Int) by omega) (show _ < (65536 : Int) by decide) | rfl) ?_
  refine ZAE ?_
  refine KC (fun q1 q1n => ?_) (fun q1 q1n => ?_)
  ·refine ZD2 ?_
   refine ZBp ?_
   refine ZAp ?_
   exact ZDm
  ·refine ZAZ ?_
   refine ZCk ?_
   refine ZAw ?_
   refine RY (light_max rfl rfl) rfl ?_
   refine ZBp ?_
   refine ZAp ?_
   exact ZDm
theorem threeB_fn (m : Bk) (h : m.Ok) (a x : Int) (ha : 0 ≤ a ∧ a < 32768) (hx : 0 ≤ x ∧ x < 256) (w : World) : Does Tryz.prog 309 [.agg (cBk m).toArray, .int .u16 a, .int .u8 x] w [] (fun v H => H = [] ∧ v = .tuple #[.agg (cBk (threeB a x m)).toArray, .bool (heldB a x m)]) := by
 obtain ⟨kind, banks, ram, on, mode, low, high, last⟩ := m
 obtain ⟨k1, k2, k3, k4, k5, k6⟩ := h
 dsimp only at k1 k2 k3 k4 k5 k6
 refine does_of Tryz.func309 rfl rfl rfl (St.refl w) ?_
 refine ZAA ?_
 refine ZAk fun b0 => ?_
 refine ZAq fun b1 => ?_
 refine ZAB ?_
 refine ZDo ?_
 refine RW (shr_pos rfl rfl y_c) rfl (as_shr 8192 y_c y_c) ?_
 refine ZAb ?_
 refine c_block ?_
 refine ZAS ?_
 refine KC (fun q0 q0n => ?_) (fun q0 q0n => ?_)
 ·refine ZD2 ?_
  refine ZBp ?_
  refine ZAp ?_
  refine Rl ?_
  refine ZBR ?_
  exact ZAu
 ·refine ZAS ?_
  refine KC (fun q1 q1n => ?_) (fun q1 q1n => ?_)
  ·refine ZAZ ?_
   refine RW (l_and rfl rfl) rfl (by first | exact as_mask 7 128 y_c rfl o_m (show _ < (256 : Int) by omega) (show _ < (256 : Int) by decide) | rfl) ?_
   refine ZAw ?_
   refine RY (light_max rfl rfl) rfl ?_
   refine ZBp ?_
   refine ZAp ?_
   refine Rl ?_
   refine ZBR ?_
   exact ZAu
  ·refine ZAS ?_
   refine KC (fun q2 q2n => ?_) (fun q2 q2n => ?_)
   ·refine ZAZ ?_
    refine ZCk ?_
    refine ZAw ?_
    refine ZBp ?_
    refine ZAp ?_
    refine Rl ?_
    refine ZBR ?_
    exact ZAu
   ·refine ZA6 ?_
    refine KL (fun q3 q3n => ?_) (fun q3 q3n => ?_)
    ·refine ZCE ?_
     refine ZAo ?_
     refine ZAO ?_
     refine ZAp ?_
     refine Rl ?_
     refine ZBR ?_
     have e1 : heldB a x ⟨kind, banks, ram, on, mode, low, high, last⟩ = (x == 1) := by unfold heldB; dsimp only; rw [Bool.eq_iff_iff]; simp only [decide_eq_true_eq, beq_iff_eq, Bool.false_eq_true, iff_false]; omega
     exact l_end0 (fun w hw => rets_cell2 rfl rfl rfl (row_own (b := b1) m_m w hw) rfl) ⟨rfl, y_X⟩
    ·refine L_4 ?_
     refine ZAb ?_
     refine ZAo ?_
     refine ZAO ?_
     refine ZAp ?_
     refine Rl ?_
     refine ZBR ?_
     exact ZAu
theorem fiveB_fn (m : Bk) (h : m.Ok) (a x : Int) (ha : 0 ≤ a ∧ a < 32768) (hx : 0 ≤ x ∧ x < 256) (w : World) : Does Tryz.prog 310 [.agg (cBk m).toArray, .int .u16 a, .int .u8 x] w [] (fun v H => H = [] ∧ v = .agg (cBk (fiveB a x m)).toArray) := by
 obtain ⟨kind, banks, ram, on, mode, low, high, last⟩ := m
 obtain ⟨k1, k2, k3, k4, k5, k6⟩ := h
 dsimp only at k1 k2 k3 k4 k5 k6
 refine does_of Tryz.func310 rfl rfl rfl (St.refl w) ?_
 refine ZAA ?_
 refine ZAk fun b0 => ?_
 refine ZAq fun b1 => ?_
 refine ZAb ?_
 refine ZA1 ?_
 refine RW (shr_pos rfl rfl y_c) rfl (as_shr 4096 y_c y_c) ?_
 refine ZAb ?_
 refine c_block ?_
 refine ZAz ?_
 refine KC (fun q0 q0n => ?_) (fun q0 q0n => ?_)
 ·refine ZAx ?_
  refine c_sure true rfl q0 ?_
  refine ZD2 ?_
  refine ZBp ?_
  refine ZAp ?_
  exact ZBW
 ·refine ZCB ?_
  refine KC (fun q1 q1n => ?_) (fun q1 q1n => ?_)
  ·refine ZD2 ?_
   refine ZBp ?_
   refine ZAp ?_
   exact ZBW
  ·refine ZAS ?_
   refine KC (fun q2 q2n => ?_) (fun q2 q2n => ?_)
   ·refine ZAo ?_
    refine RW (v := (.int .i64 (low / 256 * 256))) (l_andn rfl rfl) rfl (congrArg (Value.int .i64) (bandn_hi (n := low) o_m o_m)) ?_
    refine ZEu ?_
    refine RW (v := (.int .i64 (low / 256 * 256 + x))) (l_or rfl rfl) rfl (congrArg (Value.int .i64) (bor_join (A := low / 256 * 256) o_m o_m o_m hx)) ?_
    refine ZBp ?_
    refine ZAp ?_
    exact ZBW
   ·refine ZAS ?_
    refine KC (fun q3 q3n => ?_) (fun q3 q3n => ?_)
    ·refine ZAo ?_
     refine RW (v := (.int .i64 (low % 256))) (l_and rfl rfl) rfl (congrArg _ (band_255 _)) ?_
     refine Rl ?_
     refine RW (l_and rfl rfl) rfl y_dW ?_
     refine ZAw ?_
     refine RW (shl_pos rfl rfl y_c) rfl y_d2 ?_
     refine RW (v := (.int .i64 (low % 256 + x % 2 * 256))) (l_or rfl rfl) rfl (congrArg (Value.int .i64) (bor_join' (A := x % 2 * 256) o_m o_m o_m o_m)) ?_
     refine ZBp ?_
     refine ZAp ?_
     exact ZBW
    ·refine ZAz ?_
     refine KC (fun q4 q4n => ?_) (fun q4 q4n => ?_)
     ·refine ZAx ?_
      refine c_sure true rfl q4 ?_
      refine ZAZ ?_
      refine ZCk ?_
      refine ZAw ?_
      refine ZBp ?_
      refine ZAp ?_
      exact ZBW
     ·refine ZCB ?_
      refine KC (fun q5 q5n => ?_) (fun q5 q5n => ?_)
      ·refine ZAZ ?_
       refine ZCk ?_
       refine ZAw ?_
       refine ZBp ?_
       refine ZAp ?_
       exact ZBW
      ·refine ZAx ?_
       refine ZAp ?_
       exact ZBW
theorem writeB_fn (m : Bk) (h : m.Ok) (a x : Int) (ha : 0 ≤ a ∧ a < 65536) (hx : 0 ≤ x ∧ x < 256) (w : World) : Does Tryz.prog 306 [.agg (cBk m).toArray, .int .u16 a, .int .u8 x] w [] (fun v H => H = [] ∧ v = .tuple #[.agg (cBk (writeB a x m)).toArray, .bool (latchB a x m)]) := by
 obtain ⟨kind, banks, ram, on, mode, low, high, last⟩ := m
 obtain ⟨k1, k2, k3, k4, k5, k6⟩ := h
 dsimp only at k1 k2 k3 k4 k5 k6
 refine does_of Tryz.func306 rfl rfl rfl (St.refl w) ?_
 refine ZAA ?_
 refine ZAk fun b0 => ?_
 refine ZAq fun b1 => ?_
 refine ZEl ?_
 refine RW (l_and rfl rfl) rfl (by first | exact as_mask 15 32768 y_c rfl o_m (show _ < (65536 : Int) by omega) (show _ < (65536 : Int) by decide) | rfl) ?_
 refine ZAB ?_
 refine ZBV ?_
 refine ZAS ?_
 refine KC (fun q0 q0n => ?_) (fun q0 q0n => ?_)
 ·refine ZAp ?_
  refine L_2 ?_
  refine RLv call_307 (fun w hw => oneB_fn ⟨kind, banks, ram, on, mode, low, high, last⟩ ⟨k1, k2, k3, k4, k5, k6⟩ (a % 32768) x o_m hx w) ?_
  refine ZBR ?_
  exact ZBS
 ·refine ZAS ?_
  refine KC (fun q1 q1n => ?_) (fun q1 q1n => ?_)
  ·refine ZAp ?_
   refine L_2 ?_
   refine RLv call_308 (fun w hw => twoB_fn ⟨kind, banks, ram, on, mode, low, high, last⟩ ⟨k1, k2, k3, k4, k5, k6⟩ (a % 32768) x o_m hx w) ?_
   refine ZBR ?_
   exact ZBS
  ·refine ZAS ?_
   refine KC (fun q2 q2n => ?_) (fun q2 q2n => ?_)
   ·refine ZAp ?_
    refine L_2 ?_
    refine RLv call_309 (fun w hw => threeB_fn ⟨kind, banks, ram, on, mode, low, high, last⟩ ⟨k1, k2, k3, k4, k5, k6⟩ (a % 32768) x o_m hx w) ?_
    refine L_2 ?_
    refine ZBR ?_
    have e1 : latchB a x ⟨kind, banks, ram, on, mode, low, high, last⟩ = heldB (a % 32768) x ⟨kind, banks, ram, on, mode, low, high, last⟩ := by unfold latchB; simp_all
    exact l_end0 (fun w hw => rets_cell2 rfl rfl rfl (row_own (b := b1) m_m w hw) rfl) ⟨rfl, y_W⟩
   ·refine ZAS ?_
    refine KC (fun q3 q3n => ?_) (fun q3 q3n => ?_)
    ·refine ZAp ?_
     refine L_2 ?_
     refine RLv call_310 (fun w hw => fiveB_fn ⟨kind, banks, ram, on, mode, low, high, last⟩ ⟨k1, k2, k3, k4, k5, k6⟩ (a % 32768) x o_m hx w) ?_
     refine ZBR ?_
     exact ZBS
    ·refine ZAx ?_
     refine ZAp ?_
     refine ZBR ?_
     exact ZBS
theorem bankB_fn (m : Bk) (h : m.Ok) (hb : 0 < m.banks) (a : Int) (ha : 0 ≤ a ∧ a < 65536) (w : World) : Does Tryz.prog 77 [.agg (cBk m).toArray, .int .u16 a] w [] (fun v H => H = [] ∧ v = .int .i64 (bankB a m)) := by
 obtain ⟨kind, banks, ram, on, mode, low, high, last⟩ := m
 obtain ⟨k1, k2, k3, k4, k5, k6⟩ := h
 dsimp only at k1 k2 k3 k4 k5 k6 hb
 refine does_of Tryz.func77 rfl rfl rfl (St.refl w) ?_
 refine ZAA ?_
 refine ZAk fun b0 => ?_
 refine ZAB ?_
 refine ZAa ?_
 refine ZAV ?_
 refine RW (l_and rfl rfl) rfl (by first | exact as_bit 14 y_c o_m (show _ < (65536 : Int) by omega) (show _ < (65536 : Int) by decide) | rfl) ?_
 refine ZAE ?_
 refine ZBV ?_
 refine ZAS ?_
 refine KC (fun q0 q0n => ?_) (fun q0 q0n => ?_)
 ·refine ZAa ?_
  refine KC (fun q1 q1n => ?_) (fun q1 q1n => ?_)
  ·refine ZAP ?_
   refine ZAB ?_
   refine ZAG ?_
   refine ZB7 ?_
   refine ZB7 ?_
   refine ZAB ?_
   refine ZAK ?_
   refine ZA6 ?_
   exact ZBn
  ·refine ZAx ?_
   refine ZAG ?_
   refine ZB7 ?_
   refine ZB7 ?_
   refine ZAB ?_
   refine ZAK ?_
   refine ZA6 ?_
   exact ZBn
 ·refine ZAS ?_
  refine KC (fun q1 q1n => ?_) (fun q1 q1n => ?_)
  ·refine ZA1 ?_
   refine KL (fun q2 q2n => ?_) (fun q2 q2n => ?_)
   ·refine L_3 ?_
    refine ZAj ?_
    refine ZAo ?_
    refine RW (shl_pos rfl rfl y_c) rfl y_ex ?_
    refine ZAB ?_
    refine ZAa ?_
    refine KC (fun q3 q3n => ?_) (fun q3 q3n => ?_)
    ·refine ZB2 ?_
     refine ZBd ?_
     refine ZAB ?_
     refine ZAG ?_
     refine ZB7 ?_
     refine ZB7 ?_
     refine ZAB ?_
     refine ZAK ?_
     refine ZA6 ?_
     exact ZBn
    ·refine ZAx ?_
     refine ZAG ?_
     refine ZB7 ?_
     refine ZB7 ?_
     refine ZAB ?_
     refine ZAK ?_
     refine ZA6 ?_
     exact ZBn
   ·refine L_3 ?_
    refine ZAb ?_
    refine KC (fun q3 q3n => ?_) (fun q3 q3n => ?_)
    ·refine ZAo ?_
     refine RW (shl_pos rfl rfl y_c) rfl y_ex ?_
     refine ZAB ?_
     exact ZAr
    ·refine ZAx ?_
     exact ZAr
  ·refine ZAz ?_
   refine KC (fun q2 q2n => ?_) (fun q2 q2n => ?_)
   ·refine ZAx ?_
    refine c_sure true rfl q2 ?_
    refine ZAa ?_
    refine KC (fun q3 q3n => ?_) (fun q3 q3n => ?_)
    ·refine ZB2 ?_
     refine ZAb ?_
     refine ZAG ?_
     refine ZB7 ?_
     refine ZB7 ?_
     refine ZAB ?_
     refine ZAK ?_
     refine ZA6 ?_
     exact ZBn
    ·refine ZAx ?_
     refine ZAG ?_
     refine ZB7 ?_
     refine ZB7 ?_
     refine ZAB ?_
     refine ZAK ?_
     refine ZA6 ?_
     exact ZBn
   ·refine ZAS ?_
    refine KC (fun q3 q3n => ?_) (fun q3 q3n => ?_)
    ·refine ZAx ?_
     refine c_sure true rfl q3 ?_
     refine ZAa ?_
     refine KC (fun q4 q4n => ?_) (fun q4 q4n => ?_)
     ·refine ZB2 ?_
      refine ZAb ?_
      refine ZAG ?_
      refine ZB7 ?_
      refine ZB7 ?_
      refine ZAB ?_
      refine ZAK ?_
      refine ZA6 ?_
      exact ZBn
     ·refine ZAx ?_
      refine ZAG ?_
      refine ZB7 ?_
      refine ZB7 ?_
      refine ZAB ?_
      refine ZAK ?_
      refine ZA6 ?_
      exact ZBn
    ·refine ZCB ?_
     refine KC (fun q4 q4n => ?_) (fun q4 q4n => ?_)
     ·refine ZAa ?_
      refine KC (fun q5 q5n => ?_) (fun q5 q5n => ?_)
      ·refine ZB2 ?_
       refine ZAb ?_
       refine ZAG ?_
       refine ZB7 ?_
       refine ZB7 ?_
       refine ZAB ?_
       refine ZAK ?_
       refine ZA6 ?_
       exact ZBn
      ·refine ZAx ?_
       refine ZAG ?_
       refine ZB7 ?_
       refine ZB7 ?_
       refine ZAB ?_
       refine ZAK ?_
       refine ZA6 ?_
       exact ZBn
     ·refine ZAx ?_
      refine ZAG ?_
      refine ZB7 ?_
      refine ZB7 ?_
      refine ZAB ?_
      refine ZAK ?_
      refine ZA6 ?_
      exact ZBn
theorem romB_fn (m : Bk) (h : m.Ok) (hb : 0 < m.banks) (a : Int) (ha : 0 ≤ a ∧ a < 65536) (w : World) : Does Tryz.prog 62 [.agg (cBk m).toArray, .int .u16 a] w [] (fun v H => H = [] ∧ v = .int .i64 (romB a m)) := by
 have hb9 := bankB_ok h a
 have hb8 := h.banks
 refine does_of Tryz.func62 rfl rfl rfl (St.refl w) ?_
 refine ZAA ?_
 refine RX (x_box (l := cBk m) rfl rfl) rfl ?_
 refine ZC8 fun b0 => ?_
 refine ZAB ?_
 refine ZAp ?_
 refine Rl ?_
 refine RLv call_77 (fun w hw => bankB_fn m h hb a ha w) ?_
 refine ZCt ?_
 refine ZEu ?_
 refine ZD7 ?_
 refine ZBd ?_
 exact ZBU
theorem atB_fn (m : Bk) (h : m.Ok) (a : Int) (ha : 0 ≤ a ∧ a < 65536) (w : World) : Does Tryz.prog 128 [.agg (cBk m).toArray, .int .u16 a] w [] (fun v H => H = [] ∧ v = atT (atB_ a m)) := by
 obtain ⟨kind, banks, ram, on, mode, low, high, last⟩ := m
 obtain ⟨k1, k2, k3, k4, k5, k6⟩ := h
 dsimp only at k1 k2 k3 k4 k5 k6
 refine does_of Tryz.func128 rfl rfl rfl (St.refl w) ?_
 refine ZAA ?_
 refine ZAk fun b0 => ?_
 refine ZAE ?_
 refine ZCc ?_
 rcases on with _ | _
 ·refine ZAo ?_
  refine KL (fun q0 q0n => ?_) (fun q0 q0n => ?_)
  ·refine L_13 ?_
   refine ZAj ?_
   exact ZDz
  ·refine ZBQ ?_
   refine KL (fun q1 q1n => ?_) (fun q1 q1n => ?_)
   ·refine L_9 ?_
    refine ZAj ?_
    exact ZDz
   ·refine L_2 ?_
    refine ZAf ?_
    refine L_6 ?_
    refine ZAj ?_
    exact ZDz
 ·refine ZAo ?_
  refine KL (fun q0 q0n => ?_) (fun q0 q0n => ?_)
  ·refine L_13 ?_
   refine ZAj ?_
   exact ZDz
  ·refine ZBQ ?_
   refine KL (fun q1 q1n => ?_) (fun q1 q1n => ?_)
   ·refine L_9 ?_
    refine ZAj ?_
    exact ZDz
   ·refine L_2 ?_
    refine ZAd ?_
    refine L_6 ?_
    refine ZAb ?_
    refine KC (fun q2 q2n => ?_) (fun q2 q2n => ?_)
    ·exact ZDz
    ·refine ZAx ?_
     refine ZAV ?_
     refine ZAw ?_
     refine ZD7 ?_
     refine ZAB ?_
     refine ZBV ?_
     refine ZAS ?_
     refine KC (fun q3 q3n => ?_) (fun q3 q3n => ?_)
     ·refine ZAx ?_
      refine ZBh ?_
      exact ZCf
     ·refine ZAS ?_
      refine KC (fun q4 q4n => ?_) (fun q4 q4n => ?_)
      ·refine ZA0 ?_
       rcases mode with _ | _
       ·refine ZCB ?_
        refine c_sure false rfl rfl ?_
        refine ZAx ?_
        refine ZBh ?_
        exact ZCf
       ·refine ZCB ?_
        refine c_sure true rfl rfl ?_
        refine ZB2 ?_
        refine ZCt ?_
        refine ZBd ?_
        refine ZAB ?_
        refine ZBh ?_
        exact ZCf
      ·refine ZAS ?_
       refine KC (fun q5 q5n => ?_) (fun q5 q5n => ?_)
       ·refine ZAZ ?_
        refine ZD7 ?_
        refine ZAB ?_
        refine ZBh ?_
        exact ZCf
       ·refine ZAS ?_
        refine KC (fun q6 q6n => ?_) (fun q6 q6n => ?_)
        ·refine ZD6 ?_
         refine ZAb ?_
         refine KC (fun q7 q7n => ?_) (fun q7 q7n => ?_)
         ·exact ZDz
         ·refine ZAx ?_
          refine ZB2 ?_
          refine ZCt ?_
          refine ZBd ?_
          refine ZAB ?_
          refine ZBh ?_
          exact ZCf
        ·refine ZAS ?_
         refine KC (fun q7 q7n => ?_) (fun q7 q7n => ?_)
         ·refine ZB2 ?_
          refine ZCt ?_
          refine ZBd ?_
          refine ZAB ?_
          refine ZBh ?_
          exact ZCf
         ·exact ZDz
theorem clockB_fn (m : Bk) (h : m.Ok) (w : World) : Does Tryz.prog 126 [.agg (cBk m).toArray] w [] (fun v H => H = [] ∧ v = atT (clockB m)) := by
 obtain ⟨kind, banks, ram, on, mode, low, high, last⟩ := m
 obtain ⟨k1, k2, k3, k4, k5, k6⟩ := h
 dsimp only at k1 k2 k3 k4 k5 k6
 refine does_of Tryz.func126 rfl rfl rfl (St.refl w) ?_
 refine ZAA ?_
 refine ZAk fun b0 => ?_
 refine ZAE ?_
 refine ZCc ?_
 rcases on with _ | _
 ·refine ZB2 ?_
  refine KL (fun q0 q0n => ?_) (fun q0 q0n => ?_)
  ·refine L_14 ?_
   refine ZAj ?_
   exact ZD0
  ·refine L_2 ?_
   refine ZAf ?_
   refine L_11 ?_
   refine ZAj ?_
   exact ZD0
 ·refine ZB2 ?_
  refine KL (fun q0 q0n => ?_) (fun q0 q0n => ?_)
  ·refine L_14 ?_
   refine ZAj ?_
   exact ZD0
  ·refine L_2 ?_
   refine ZAd ?_
   refine L_6 ?_
   refine KL (fun q1 q1n => ?_) (fun q1 q1n => ?_)
   ·refine L_4 ?_
    refine ZAj ?_
    exact ZD0
   ·refine L_4 ?_
    refine ZAb ?_
    refine KC (fun q2 q2n => ?_) (fun q2 q2n => ?_)
    ·exact ZD0
    ·refine ZAx ?_
     refine ZAU ?_
     refine ZCV ?_
     refine ZAs ?_
     exact l_end0 (fun _ _ => rets_v2 rfl rfl) ⟨rfl, y_u⟩
theorem newB_fn (ti : ByteArray) (kind banks ram : Int) (cl ba wh : Bool) (w : World) : Does Tryz.prog 43 [.agg #[.string ti, .int .i64 kind, .bool cl, .bool ba, .int .i64 banks, .int .i64 ram, .bool wh]] w [] (fun v H => H = [] ∧ v = .agg (cBk ⟨kind, banks, ram, decide (kind = 0), false, 1, 0, 255⟩).toArray) := by
 refine does_of Tryz.func43 rfl rfl rfl (St.refl w) ?_
 refine ZAA ?_
 refine RX (x_box (l := [.string ti, .int .i64 kind, .bool cl, .bool ba, .int .i64 banks, .int .i64 ram, .bool wh]) rfl rfl) rfl ?_
 refine ZC8 fun b0 => ?_
 refine ZAq fun b1 => ?_
 refine ZAb ?_
 refine ZAA ?_
 refine L_9 ?_
 refine RS ?_
 exact ZCm
theorem heldPd_fn (p : Pd) (w : World) : Does Tryz.prog 151 [.agg (cPd p).toArray] w [] (fun v H => H = [] ∧ v = .int .u8 (heldPd p)) := by
 obtain ⟨sel, down⟩ := p
 refine does_of Tryz.func151 rfl rfl rfl (St.refl w) ?_
 refine ZD8 ?_
 refine ZC8 fun b0 => ?_
 refine ZAB ?_
 refine ZAa ?_
 refine ZCd ?_
 refine RW (v := (.int .u8 (band .u8 sel 16))) (l_and rfl rfl) rfl rfl ?_
 refine ZAB ?_
 refine KC (fun q0 q0n => ?_) (fun q0 q0n => ?_)
 ·refine ZB2 ?_
  refine RY (l_or rfl rfl) rfl ?_
  refine ZAB ?_
  refine ZCd ?_
  refine RW (v := (.int .u8 (band .u8 sel 32))) (l_and rfl rfl) rfl rfl ?_
  refine ZAB ?_
  refine KC (fun q1 q1n => ?_) (fun q1 q1n => ?_)
  ·refine ZB2 ?_
   refine RW (v := (.int .u8 (shr .u8 down 4))) (shr_pos rfl rfl y_c) rfl rfl ?_
   refine RY (l_or rfl rfl) rfl ?_
   refine ZEl ?_
   refine RW (v := _) (l_and rfl rfl) rfl rfl ?_
   refine ZAI ?_
   exact E0 rfl ⟨rfl, (by unfold heldPd loPd; dsimp only; rw [if_pos q1n, if_pos q0n])⟩
  ·refine ZAx ?_
   refine ZAV ?_
   refine RW (v := _) (l_and rfl rfl) rfl rfl ?_
   refine ZAI ?_
   exact E0 rfl ⟨rfl, (by unfold heldPd loPd; dsimp only; rw [if_neg q1n, if_pos q0n])⟩
 ·refine ZAx ?_
  refine ZCd ?_
  refine RW (v := (.int .u8 (band .u8 sel 32))) (l_and rfl rfl) rfl rfl ?_
  refine ZAB ?_
  refine KC (fun q1 q1n => ?_) (fun q1 q1n => ?_)
  ·refine ZB2 ?_
   refine RW (v := (.int .u8 (shr .u8 down 4))) (shr_pos rfl rfl y_c) rfl rfl ?_
   refine RY (l_or rfl rfl) rfl ?_
   refine ZEl ?_
   refine RW (v := _) (l_and rfl rfl) rfl rfl ?_
   refine ZAI ?_
   exact E0 rfl ⟨rfl, (by unfold heldPd loPd; dsimp only; rw [if_pos q1n, if_neg q0n])⟩
  ·refine ZAx ?_
   refine ZAV ?_
   refine RW (v := _) (l_and rfl rfl) rfl rfl ?_
   refine ZAI ?_
   exact E0 rfl ⟨rfl, (by unfold heldPd loPd; dsimp only; rw [if_neg q1n, if_neg q0n])⟩
theorem readPd_fn (p : Pd) (w : World) : Does Tryz.prog 129 [.agg (cPd p).toArray] w [] (fun v H => H = [] ∧ v = .int .u8 (readPd p)) := by
 obtain ⟨sel, down⟩ := p
 refine does_of Tryz.func129 rfl rfl rfl (St.refl w) ?_
 refine ZD8 ?_
 refine ZC8 fun b0 => ?_
 refine ZEm ?_
 refine DR [4, 5, 6, 7] (pln [0, 2, 4, 6, 8, 11, 12, 14, 16, 18]) ?_
 refine D_2 ?_
 refine DW (v := (.int .u8 (band .u8 sel 48))) rfl rfl rfl rfl ?_
 refine DW (v := _) rfl rfl rfl rfl ?_
 refine d_loadA rfl rfl rfl rfl y_bG rfl rfl ?_
 refine DZ rfl (x_val call_151 rfl (fun w hw => heldPd_fn ⟨sel, down⟩ w)) rfl y_b ?_
 refine DW (v := (.int .u8 (bxor .u8 255 (heldPd ⟨sel, down⟩)))) rfl rfl rfl rfl ?_
 refine DW (v := _) rfl rfl rfl rfl ?_
 refine DW (v := _) rfl rfl rfl rfl ?_
 refine RD ?_
 refine ZBe ?_
 exact E0 rfl ⟨rfl, rfl⟩
theorem changePd_fn (p q : Pd) (w : World) : Does Tryz.prog 92 [.agg (cPd p).toArray, .agg (cPd q).toArray] w [] (fun v H => H = [] ∧ v = .tuple #[.agg (cPd q).toArray, .bool (fallsPd p q)]) := by
 refine does_of Tryz.func92 rfl rfl rfl (St.refl w) ?_
 refine ZAA ?_
 refine RX (x_box (l := cPd p) rfl rfl) rfl ?_
 refine ZC8 fun b0 => ?_
 refine RX (x_box (l := cPd q) rfl rfl) rfl ?_
 rintro _ _ ⟨b1, rfl, rfl⟩
 refine ZD4 fun b2 => ?_
 refine ZEm ?_
 refine DR [1, 2, 3, 4, 5, 6] (pln [0, 2, 6, 5, 9, 10, 12, 15, 16]) ?_
 refine d_loadA rfl rfl rfl rfl y_bG rfl rfl ?_
 refine d_loadA rfl rfl rfl rfl y_bG rfl rfl ?_
 refine d_loadA rfl rfl rfl rfl y_bG rfl rfl ?_
 refine DZ rfl (x_val call_151 rfl (fun w hw => heldPd_fn q w)) rfl y_b ?_
 refine DZ rfl (x_val call_151 rfl (fun w hw => heldPd_fn p w)) rfl y_b ?_
 refine DW (v := _) rfl rfl rfl rfl ?_
 refine RD ?_
 refine DZ rfl s_t rfl n_h ?_
 refine RD ?_
 refine ZBe ?_
 exact l_end0 (fun w hw => rets_cell2 rfl rfl rfl (row_own (b := b2) m_m w hw) rfl) ⟨rfl, rfl⟩
theorem selPd_fn (p : Pd) (x : Int) (w : World) : Does Tryz.prog 318 [.agg (cPd p).toArray, .int .u8 x] w [] (fun v H => H = [] ∧ v = .tuple #[.agg (cPd (selPd x p)).toArray, .bool (fallsPd p (selPd x p))]) := by
 obtain ⟨sel, down⟩ := p
 refine does_of Tryz.func318 rfl rfl rfl (St.refl w) ?_
 refine ZD8 ?_
 refine ZC8 fun b0 => ?_
 refine ZAq fun b1 => ?_
 refine ZAB ?_
 refine ZDx ?_
 refine Rl ?_
 refine RW (v := (.int .u8 (band .u8 x 48))) rfl rfl rfl ?_
 refine L_2 ?_
 refine RS ?_
 refine RLv call_92 (fun w hw => changePd_fn ⟨sel, down⟩ (selPd x ⟨sel, down⟩) w) ?_
 refine L_2 ?_
 refine ZBR ?_
 exact l_end0 (fun w hw => rets_cell2 rfl rfl rfl (row_own (b := b1) m_m w hw) rfl) ⟨rfl, rfl⟩
theorem pressPd_fn (p : Pd) (x : Int) (w : World) : Does Tryz.prog 48 [.agg (cPd p).toArray, .int .u8 x] w [] (fun v H => H = [] ∧ v = .tuple #[.agg (cPd (pressPd x p)).toArray, .bool (fallsPd p (pressPd x p))]) := by
 obtain ⟨sel, down⟩ := p
 refine does_of Tryz.func48 rfl rfl rfl (St.refl w) ?_
 refine ZD8 ?_
 refine ZC8 fun b0 => ?_
 refine ZAq fun b1 => ?_
 refine ZAB ?_
 refine ZDx ?_
 refine L_3 ?_
 refine RS ?_
 refine RLv call_92 (fun w hw => changePd_fn ⟨sel, down⟩ (pressPd x ⟨sel, down⟩) w) ?_
 refine L_2 ?_
 refine ZBR ?_
 exact l_end0 (fun w hw => rets_cell2 rfl rfl rfl (row_own (b := b1) m_m w hw) rfl) ⟨rfl, rfl⟩
theorem planAt_fn (l : List Chg) (a : Option Addr) (cp : Nat) (hll : l.length ≤ 1000000) (n : Int) (w : World) (hE : Els w cChg a l) : Does Tryz.prog 49 [.slice a l.length cp, .int .u64 n] w [] (fun v H => H = [] ∧ v = .int .u8 (planAt l n)) := by
 refine does_of Tryz.func49 rfl rfl rfl (St.refl w) ?_
 refine ZAa ?_
 refine ZDo ?_
 refine ZCU ?_
 refine ZBO ?_
 refine c_loopk (σ := Nat × Value) [5, 6, 7, 10, 11, 12, 13, 14, 15, 16, 17, 18, 19, 20, 21, 22, 23, 24, 25, 26, 27, 28, 29, 30, 31, 32, 33, 34, 35, 36, 37, 38] (fun q => [(5, q.2), (10, .int .i64 q.1)]) (fun q => q.1 ≤ l.length ∧ ((bestP n (l.take q.1) = none ∧ q.2 = .pointer none) ∨ ∃ c0, bestP n (l.take q.1) = some c0 ∧ ∃ b0 o0, q.2 = .pointer (some ⟨b0, o0, none⟩) ∧ w.cell? ⟨b0, o0, none⟩ = some (.int .u64 c0.at_) ∧ w.cell? ⟨b0, o0 + 1, none⟩ = some (.int .u8 c0.down))) (fun q => l.length - q.1) (0, .pointer none) ?_ ?_ ?_
 ·exact ⟨Nat.zero_le _, .inl ⟨rfl, rfl⟩⟩
 ·exact .cons rfl (.cons rfl .nil)
 ·rintro ⟨i, pv⟩ y3 ⟨hi, hb9⟩
  dsimp only at hi hb9 ⊢
  refine ZCI ?_
  refine KC (fun q0 q0n => ?_) (fun q0 q0n => ?_)
  ·refine ZDp ?_
   obtain ⟨bx, ox, rfl, hrx⟩ := hE.row (i := i) o_m
   obtain ⟨c, hcx0⟩ : ∃ c, l[i]? = some c := ⟨_, List.getElem?_eq_getElem o_m⟩
   refine ZCB ?_
   refine ZAU ?_
   refine RY (idx_slice (s := 2) i rfl rfl rfl rfl o_m) rfl ?_
   refine ZEm ?_
   rcases hb9 with ⟨hb, rfl⟩ | ⟨c0, hb, b0, o0, rfl, hc0, hc1⟩
   ·refine DR [4, 14, 15, 16, 17] (pln [0, 2, 4, 6, 8, 10, 12, 14, 16, 18, 20, 22, 24, 26, 28, 30, 32, 34, 36, 38, 40]) ?_
    refine D_3 ?_
    refine DL rfl rfl rfl (fun w hw => y_eh) rfl ?_
    refine D_2 ?_
    refine KE (fun q1 q1n => ?_) (fun q1 q1n => ?_)
    ·refine RD ?_
     refine d_sure true rfl rfl rfl rfl rfl ?_
     refine D_12 ?_
     refine ZEb ?_
     refine ZDu ?_
     refine ZCB ?_
     refine ZC2 ?_
     exact ⟨(i + 1, _), ⟨y_D, .inr ⟨c, by rw [best_step hcx0, hb]; exact better_yes o_m rfl, _, _, rfl, y_dv, y_du⟩⟩, y_bI, .cons rfl (.cons rfl .nil), a_g, fun _ h => h⟩
    ·refine D_14 ?_
     refine ZEb ?_
     refine ZAK ?_
     refine ZC2 ?_
     exact ⟨(i + 1, _), ⟨y_D, .inl ⟨y_dA, rfl⟩⟩, y_bI, .cons rfl (.cons rfl .nil), a_g, fun _ h => h⟩
   ·refine DR [4, 14, 15, 16, 17] (pln [0, 2, 4, 6, 8, 10, 12, 14, 16, 18, 20, 22, 24, 26, 28, 30, 32, 34, 36, 38, 40]) ?_
    refine D_3 ?_
    refine DL rfl rfl rfl (fun w hw => y_eh) rfl ?_
    refine D_2 ?_
    refine KE (fun q1 q1n => ?_) (fun q1 q1n => ?_)
    ·refine RD ?_
     refine d_sure false rfl rfl rfl rfl rfl ?_
     refine D_4 ?_
     refine DL rfl rfl rfl (fun w hw => y_eh) rfl ?_
     refine D_3 ?_
     refine DL rfl rfl rfl (s_old hc0 y_z) rfl ?_
     iterate 3 refine RD ?_
     refine ZEb ?_
     refine KC (fun q2 q2n => ?_) (fun q2 q2n => ?_)
     ·refine ZCB ?_
      refine ZC2 ?_
      exact ⟨(i + 1, _), ⟨y_D, .inr ⟨c, by rw [best_step hcx0, hb]; exact better_yes o_m (decide_eq_true o_m), _, _, rfl, y_dv, y_du⟩⟩, y_bI, .cons rfl (.cons rfl .nil), a_g, fun _ h => h⟩
     ·refine ZAx ?_
      refine ZC2 ?_
      exact ⟨(i + 1, _), ⟨y_D, .inr ⟨c0, by rw [best_step hcx0, hb]; exact better_no (.inr (decide_eq_false o_m)), b0, o0, rfl, hc0, hc1⟩⟩, y_bI, .cons rfl (.cons rfl .nil), a_g, fun _ h => h⟩
    ·refine D_14 ?_
     refine ZEb ?_
     refine ZAK ?_
     refine ZC2 ?_
     exact ⟨(i + 1, _), ⟨y_D, .inr ⟨c0, y_dA, b0, o0, rfl, hc0, hc1⟩⟩, y_bI, .cons rfl (.cons rfl .nil), a_g, fun _ h => h⟩
  ·refine ZBa ?_
   refine ZCc ?_
   obtain rfl : i = l.length := by omega
   rw [List.take_length] at hb9
   rcases hb9 with ⟨hb, rfl⟩ | ⟨c0, hb, b0, o0, rfl, hc0, hc1⟩
   ·refine ZAZ ?_
    refine ZEB ?_
    refine ZAY ?_
    exact E0 rfl ⟨rfl, (by unfold planAt; rw [hb])⟩
   ·refine ZAZ ?_
    refine ZDh ?_
    refine ZA6 ?_
    refine RZ (x_load rfl rfl (at_old hc1 y_z)) rfl ?_
    refine ZAI ?_
    exact E0 rfl ⟨rfl, (by unfold planAt; rw [hb])⟩
end Go.Proofs.YtldehodcfajpjaaGreat
