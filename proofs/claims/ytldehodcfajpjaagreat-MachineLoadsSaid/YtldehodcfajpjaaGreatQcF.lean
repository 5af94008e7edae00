/- Rules. -/
import Derived.Test.YtldehodcfajpjaaGreatQcD
set_option linter.unusedSimpArgs false
set_option linter.unusedVariables false
set_option maxRecDepth 100000
namespace Go.VV
open Go Go.RowKit
theorem y_a {p : Prop} (h : p := by (try simp only [decide_eq_true_eq, decide_eq_false_iff_not, beq_iff_eq, beq_eq_false_iff_ne, bne_iff_ne, bne_eq_false_iff_eq, ne_eq] at *); omega) : p := h
theorem y_b {p : Prop} (h : p := by intro _ _ _ hK x hx; obtain ⟨rfl, rfl⟩ := hK; repeat (first | exact hx | exact List.mem_append_left _ hx | refine List.mem_append_right _ ?_ | refine .tail _ ?_)) : p := h
theorem y_c {p : Prop} (h : p := by decide) : p := h
theorem y_d {p : Prop} (h : p := by first | exact as_i64 o_m o_m | rfl) : p := h
theorem y_e {p : Prop} (h : p := by first | (exfalso; omega) | (unfold atT atB_; dsimp only; (try simp only [Bool.true_eq_false, Bool.false_eq_true, true_or, or_true, false_or, or_false, if_true, if_false]); (repeat (first | rw [if_pos o_m] | rw [if_neg o_m])); first | done | rfl)) : p := h
theorem y_f {p : Prop} (h : p := by first | (exfalso; omega) | (unfold bankB numB; dsimp only; (repeat (first | rw [if_pos (by first | omega | assumption)] | rw [if_neg (by first | omega | simp_all)])); exact Int.tmod_eq_emod_of_nonneg o_m)) : p := h
theorem y_g {p : Prop} (h : p := by kernel_rfl) : p := h
theorem y_h {p : Prop} (h : p := by first | exact row_own m_m | exact row_own_at m_m _ 5 rfl) : p := h
theorem y_i {p : Prop} (h : p := by first | (exfalso; omega) | (unfold deviceM; (repeat (first | rw [if_pos o_m] | rw [if_neg o_m])); first | done | rfl)) : p := h
theorem y_j {p : Prop} (h : p := by unfold pictured; rw [Bool.eq_iff_iff]; simp only [decide_eq_true_eq, bne_iff_ne, ne_eq, Bool.false_eq_true, eq_self_iff_true, true_iff, false_iff, iff_true, iff_false]; omega) : p := h
theorem y_k {p : Prop} (h : p := by rw [cU_len hu]; simp only [List.length_cons, List.length_nil]; (try simp only [decide_eq_true_eq, decide_eq_false_iff_not, beq_iff_eq, beq_eq_false_iff_ne, bne_iff_ne, bne_eq_false_iff_eq, ne_eq] at *); omega) : p := h
theorem y_l {p : Prop} (h : p := by repeat (first | exact .head _ | refine List.mem_append_right _ ?_ | refine .tail _ ?_)) : p := h
theorem y_m {p : Prop} (h : p := by first | (exfalso; omega) | (unfold setDeviceM; (repeat (first | rw [if_pos o_m] | rw [if_neg o_m])))) : p := h
theorem y_n {p : Prop} (h : p := by rcases List.mem_cons.1 hx with rfl | hx; exact m_m; obtain rfl := List.mem_singleton.1 hx; exact m_m) : p := h
theorem y_o {p : Prop} (h : p := by first | exact as_u8 o_m o_m | exact as_u8m _) : p := h
theorem y_p {p : Prop} (h : p := by first | exact row_own m_m | exact row_own_at m_m _ 8 rfl) : p := h
theorem y_q {p : Prop} (h : p := by intro _ _ _ hK x hx; obtain ⟨_, rfl, rfl⟩ := hK; repeat (first | exact hx | exact List.mem_append_left _ hx | refine List.mem_append_right _ ?_ | refine .tail _ ?_)) : p := h
theorem y_r {p : Prop} (h : p := by first | exact as_u16 o_m o_m | exact as_u16m _) : p := h
theorem y_s {p : Prop} (h : p := by rw [e9]; first | done | rfl) : p := h
theorem y_t {p : Prop} (h : p := by unfold kindD; repeat (first | rw [if_pos o_m] | rw [if_neg o_m])) : p := h
theorem y_u {p : Prop} (h : p := by first | (exfalso; omega) | (unfold atT clockB; dsimp only; (try simp only [Bool.true_eq_false, Bool.false_eq_true, true_or, or_true, false_or, or_false, if_true, if_false]); (repeat (first | rw [if_pos o_m] | rw [if_neg o_m])); first | done | rfl)) : p := h
theorem y_v {p : Prop} (h : p := by repeat (first | exact hx | refine List.mem_append_right _ ?_ | refine .tail _ ?_)) : p := h
theorem y_w {p : Prop} (h : p := by first | (rw [cBd_len hWL]; rfl) | (rw [cBd_len hWO]; rfl) | (rw [cBd_len hPK]; rfl) | (rw [cBd_len (hPK.beginW (k / 5)).ln]; rfl)) : p := h
theorem y_x {p : Prop} (h : p := by repeat (first | exact hx | exact List.mem_append_left _ hx | refine List.mem_append_right _ ?_ | refine .tail _ ?_)) : p := h
theorem y_y {p : Prop} (h : p := by rw [cMm_len h.ln]; exact Nat.le_of_ble_eq_true rfl) : p := h
theorem y_z {p : Prop} (h : p := by simp) : p := h
theorem y_A {p : Prop} (h : p := by decide +kernel) : p := h
theorem y_B {p : Prop} (h : p := by simp at *; omega) : p := h
theorem y_C {p : Prop} (h : p := by rw [show btD (l.getD 327 0) = true by unfold btD; rw [Bool.eq_iff_iff]; simp only [Bool.or_eq_true, beq_iff_eq, true_iff, iff_true]; omega]) : p := h
theorem y_D {p : Prop} (h : p := by omega) : p := h
theorem y_E {p : Prop} (h : p := by intro _ _ _ hK x hx; obtain ⟨_, ⟨rfl, G1, rfl, hG1⟩, rfl⟩ := hK; repeat (first | exact hx | exact List.mem_append_left _ hx | refine List.mem_append_right _ ?_ | refine .tail _ ?_)) : p := h
theorem y_F {p : Prop} (h : p := by dsimp only; omega) : p := h
theorem y_G {p : Prop} (h : p := by first | omega | (unfold madeAt; split <;> omega)) : p := h
theorem y_H {p : Prop} (h : p := by first | exact row_own m_m | exact row_own_at m_m _ 10 rfl) : p := h
theorem y_I {p : Prop} (h : p := by unfold tickB; rw [if_neg (by rw [show B.on = true by simpa using q0]; decide), if_neg o_m]) : p := h
theorem y_J {p : Prop} (h : p := by first | (rintro ⟨h8, h9⟩; omega) | (rintro ⟨h8, h9⟩; rw [hon9] at h8; cases h8)) : p := h
theorem y_K {p : Prop} (h : p := by unfold fiveB; dsimp only; (repeat (first | rw [if_pos o_m] | rw [if_neg o_m])); first | done | rfl) : p := h
theorem y_L {p : Prop} (h : p := by first | exact (x_storeTo (l' := cSrt ((sortH (l.getD 327 0)).getD (0, false, false))) 0 rfl rfl rfl rfl rfl rfl (Nat.le_of_ble_eq_true rfl) rfl) | exact (x_storeTo (l' := cSrt ((sortH (l.getD 327 0)).getD (0, false, false))) 1 rfl rfl rfl rfl rfl rfl (Nat.le_of_ble_eq_true rfl) rfl)) : p := h
theorem y_M {p : Prop} (h : p := by rw [cBd_len hB]; simp only [List.length_cons, List.length_nil]; omega) : p := h
theorem y_N {p : Prop} (h : p := by unfold askV; have h9 : (askU u).sig = sigU u := rfl; simp_all) : p := h
theorem y_O {p : Prop} (h : p := by simp only [List.length_set, madeP_n]) : p := h
theorem y_P {p : Prop} (h : p := by first | exact List.Sublist.refl _ | exact (List.Sublist.refl _).append (List.sublist_append_right _ _) | exact List.sublist_append_right _ _ | exact List.sublist_cons_self _ _) : p := h
theorem y_Q {p : Prop} (h : p := by rw [cBd_len hFN]; rfl) : p := h
theorem y_R {p : Prop} (h : p := by unfold writeCk; dsimp only; (repeat (first | rw [if_pos o_m] | rw [if_neg o_m])); first | done | rfl) : p := h
theorem y_S {p : Prop} (h : p := by rw [cBd_len hE]; simp only [List.length_cons, List.length_nil]; omega) : p := h
theorem y_T {p : Prop} (h : p := by first | exact as_rem o_m | rfl) : p := h
theorem y_U {p : Prop} (h : p := by first | exact row_own m_m | exact row_own_at m_m _ 12 rfl) : p := h
theorem y_V {p : Prop} (h : p := by first | exact row_own m_m | exact row_own_at m_m _ 6 rfl) : p := h
theorem y_W {p : Prop} (h : p := by rw [e1]; unfold writeB; dsimp only; (repeat (first | rw [if_pos o_m] | rw [if_neg o_m])); first | done | rfl) : p := h
theorem y_X {p : Prop} (h : p := by rw [e1]; unfold threeB; dsimp only; (repeat (first | rw [if_pos o_m] | rw [if_neg o_m])); first | done | rfl) : p := h
theorem y_Y {p : Prop} (h : p := by rw [hE]; kernel_rfl) : p := h
theorem y_Z {p : Prop} (h : p := by unfold writeTm; dsimp only; (repeat (first | rw [if_pos o_m] | rw [if_neg o_m])); first | done | rfl) : p := h
theorem y_0 {p : Prop} (h : p := by unfold readTm; dsimp only; (repeat (first | rw [if_pos o_m] | rw [if_neg o_m])); first | done | rfl) : p := h
theorem y_1 {p : Prop} (h : p := by first | exact row_own m_m | exact row_own_at m_m _ 2 rfl) : p := h
theorem y_2 {p : Prop} (h : p := by rw [e9]; exact hG0) : p := h
theorem y_3 {p : Prop} (h : p := by intro _ _ _ hK; obtain ⟨_, _, rfl⟩ := hK; exact fun x hx => by repeat (first | exact hx | refine List.mem_append_right _ ?_)) : p := h
theorem y_4 {p : Prop} (h : p := by show _ = _ ++ [_, _, (A.rb, blk (List.map (Value.int .u8) (cycleM m).ram ++ A.rs) 5), (A.ob, blk (List.map (Value.int .u8) (cycleM m).rom ++ A.sp) 5)]; rw [cycleM_ram, cycleM_rom]; rfl) : p := h
theorem y_5 {p : Prop} (h : p := by obtain rfl := List.mem_singleton.1 hx; exact .head _) : p := h
theorem y_6 {p : Prop} (h : p := by rw [cBd_len hPK]; simp only [List.length_cons, List.length_nil]; omega) : p := h
theorem y_7 {p : Prop} (h : p := by rw [e1]; unfold tickPt shiftPt; dsimp only; (repeat (first | rw [if_pos o_m] | rw [if_neg o_m])); first | done | rfl) : p := h
theorem y_8 {p : Prop} (h : p := by rw [e9]; exact hG1) : p := h
theorem y_9 {p : Prop} (h : p := by unfold tickV; rw [if_pos hlit, ← bor_ask (stepV_one u) (askV_two _), ← hnv]; rfl) : p := h
theorem y_ba {p : Prop} (h : p := by have := inv_ram (R := newM (romG g)) hi9; omega) : p := h
theorem y_bb {p : Prop} (h : p := by simpa using q1) : p := h
theorem y_bc {p : Prop} (h : p := by intro _ _ _ hK; obtain ⟨rfl, rfl⟩ := hK; exact fun x hx => hx) : p := h
theorem y_bd {p : Prop} (h : p := by rw [List.length_map, h.lV]; omega) : p := h
theorem y_be {p : Prop} (h : p := by unfold writePt; dsimp only; (repeat (first | rw [if_pos o_m] | rw [if_neg o_m])); first | done | rfl) : p := h
theorem y_bf {p : Prop} (h : p := by unfold oneB; dsimp only; (repeat (first | rw [if_pos o_m] | rw [if_neg o_m])); first | done | rfl) : p := h
theorem y_bg {p : Prop} (h : p := by rw [cMm_len h.ln]; simp only [List.length_cons, List.length_nil]; omega) : p := h
theorem y_bh {p : Prop} (h : p := by rw [cBd_len hFN, cBd_len bdZ_wf]; decide) : p := h
theorem y_bi {p : Prop} (h : p := by first | exact row_own m_m | exact row_own_at m_m _ 4 rfl) : p := h
theorem y_bj {p : Prop} (h : p := by show Vec _ 3 va' (((if letsCp (cycleM m).cp a = true then pokeM a x (cycleM m) else (cycleM m))).acc ++ [_]).length (flat cAc ((if letsCp (cycleM m).cp a = true then pokeM a x (cycleM m) else (cycleM m)).acc ++ [_])) Ga'; rw [e9]; exact hV'.as (by rw [List.length_append]; rfl) rfl) : p := h
theorem y_bk {p : Prop} (h : p := by rw [cU_len (hu.P_ (u.line.toNat * 160) (rowU_byts u) (by rw [rowU_len]; omega))]; simp only [List.length_cons, List.length_nil]; (try simp only [decide_eq_true_eq, decide_eq_false_iff_not, beq_iff_eq, beq_eq_false_iff_ne, bne_iff_ne, bne_eq_false_iff_eq, ne_eq] at *); omega) : p := h
theorem y_bl {p : Prop} (h : p := by cases hp; exact St.apartT (G := [(rb, blk RL 5)]) hw2) : p := h
theorem y_bm {p : Prop} (h : p := by rw [cBd_len hB]; rfl) : p := h
theorem y_bn {p : Prop} (h : p := by first | exact srow_own m_m | exact srow_own_at m_m _ 9 rfl) : p := h
theorem y_bo {p : Prop} (h : p := by obtain rfl := List.mem_singleton.1 hx; exact m_m) : p := h
theorem y_bp {p : Prop} (h : p := by unfold daaB daaC; simp_all [fg]; all_goals (repeat' split); all_goals omega) : p := h
theorem y_bq {p : Prop} (h : p := by first | exact h.sub (.cons_cons _ (.cons _ (List.Sublist.refl _))) | exact h.sub (.cons _ (List.Sublist.refl _))) : p := h
theorem y_br {p : Prop} (h : p := by show _ = [(b, blk (cBd ((turnV levV B n).setV n (levV (turnV levV B n) n ((turnV levV B n).v n)))) 131)]; rw [show levV (turnV levV B n) n ((turnV levV B n).v n) = (turnV levV B n).v n from if_pos o_m, setV_same hX9 o_m]) : p := h
theorem y_bs {p : Prop} (h : p := by show _ = [(b, blk (cBd ((turnV lenV B n).setV n (lenV (turnV lenV B n) n ((turnV lenV B n).v n)))) 131)]; rw [show lenV (turnV lenV B n) n ((turnV lenV B n).v n) = (turnV lenV B n).v n from if_pos o_m, setV_same hX9 o_m]) : p := h
theorem y_bt {p : Prop} (h : p := by unfold writeBd; rw [if_neg o_m, if_neg o_m, if_neg (by first | (rintro ⟨h8, q7⟩; omega) | (rintro ⟨h8, q7⟩; rw [hon9] at h8; cases h8)), if_neg o_m, Int.toNat_natCast]; unfold voiceB; rw [if_neg o_m, if_neg o_m]) : p := h
theorem y_bu {p : Prop} (h : p := by rw [v_set hX9 o_m]; rfl) : p := h
theorem y_bv {p : Prop} (h : p := by unfold daaL; simp_all [fg]; all_goals (repeat' split); all_goals omega) : p := h
theorem y_bw {p : Prop} (h : p := by unfold daaC; simp_all [fg]; all_goals (repeat' split); all_goals omega) : p := h
theorem y_bx {p : Prop} (h : p := by rw [hf9]; rfl) : p := h
theorem y_by {p : Prop} (h : p := by have h9 := (Row.nth' (cPtr_len pb) hrow hoi) 0 _ rfl; simpa using h9) : p := h
theorem y_bz {p : Prop} (h : p := by simp; omega) : p := h
theorem y_bA {p : Prop} (h : p := by rw [List.length_map, h.lR]; omega) : p := h
theorem y_bB {p : Prop} (h : p := by unfold readPt; dsimp only; (repeat (first | rw [if_pos o_m] | rw [if_neg o_m])); first | done | rfl) : p := h
theorem y_bC {p : Prop} (h : p := by rw [cBd_len hPK]; rfl) : p := h
theorem y_bD {p : Prop} (h : p := by unfold twoB; dsimp only; (repeat (first | rw [if_pos o_m] | rw [if_neg o_m])); first | done | rfl) : p := h
theorem y_bE {p : Prop} (h : p := by have h9 := hm _ _ (get_high h.ln (j := (a - 65408).toNat) o_m); rwa [← Nat.add_assoc] at h9) : p := h
theorem y_bF {p : Prop} (h : p := by first | exact srow_own m_m | exact srow_own_at m_m _ 4 rfl) : p := h
theorem y_bG {p : Prop} (h : p := by first | exact srow_own m_m | exact srow_own_at m_m _ 2 rfl) : p := h
theorem y_bH {p : Prop} (h : p := by first | exact srow_own m_m | exact srow_own_at m_m _ 1 rfl) : p := h
theorem y_bI {p : Prop} (h : p := by show l.length - (i + 1) < l.length - i; omega) : p := h
theorem y_bJ {p : Prop} (h : p := by rw [upTo_len (Nat.le_refl _)]; rfl) : p := h
theorem y_bK {p : Prop} (h : p := by rw [tabL_len hP hB, cO_len]; omega) : p := h
theorem y_bL {p : Prop} (h : p := by rw [take_snoc o_m, List.map_append, ← txV_app]; exact congrArg (fun z : Int => txV ((l.take i).map chrH) ++ [Value.int .u8 z]) ((by unfold chrH; rw [if_pos o_m]; rfl))) : p := h
theorem y_bM {p : Prop} (h : p := by rw [List.length_map, h.lO]; omega) : p := h
theorem y_bN {p : Prop} (h : p := by rw [passes_snoc hoi, ← hZ, pass1_goes hfz]; exact hV1) : p := h
theorem y_bO {p : Prop} (h : p := by rw [← e1]; rfl) : p := h
theorem y_bP {p : Prop} (h : p := by have h9 := qcheck_fn (some ⟨b11, 0, none⟩) (romS b) (madeZ kind b ram prog) o_m hbZ w (Ns.of (row_own (b := b11) m_m w hw)); rw [hlZ, if_neg o_m] at h9; exact h9) : p := h
theorem y_bQ {p : Prop} (h : p := by unfold readB; rw [if_neg o_m, if_neg o_m, if_neg o_m]) : p := h
theorem y_bR {p : Prop} (h : p := by rw [List.length_map, h.lR]) : p := h
theorem y_bS {p : Prop} (h : p := by rw [hq4 _ hx]; (try simp only [decide_eq_true_eq, decide_eq_false_iff_not, beq_iff_eq, beq_eq_false_iff_ne, bne_iff_ne, bne_eq_false_iff_eq, ne_eq] at *); omega) : p := h
theorem y_bT {p : Prop} (h : p := by unfold shiftPt; dsimp only; omega) : p := h
theorem y_bU {p : Prop} (h : p := by rw [q1]; decide) : p := h
theorem y_bV {p : Prop} (h : p := by rw [Bool.eq_iff_iff]; simp only [bne_iff_ne, decide_eq_true_eq, ne_eq]; omega) : p := h
theorem y_bW {p : Prop} (h : p := by rw [cBd_len hWO]; rfl) : p := h
theorem y_bX {p : Prop} (h : p := by unfold fewG; rw [Bool.eq_iff_iff]; simp only [decide_eq_true_eq, Bool.and_eq_true, Bool.false_eq_true, false_iff, eq_self_iff_true, true_iff]; omega) : p := h
theorem y_bY {p : Prop} (h : p := by cases hp; exact St.apartT (G := []) hw) : p := h
theorem y_bZ {p : Prop} (h : p := by rw [cBd_len hX1]; simp only [List.length_cons, List.length_nil]; omega) : p := h
theorem y_b0 {p : Prop} (h : p := by rw [tailM_len h, List.length_singleton]; omega) : p := h
theorem y_b1 {p : Prop} (h : p := by rw [Nat.zero_add]; exact cBd_r hB (j := k) o_m) : p := h
theorem y_b2 {p : Prop} (h : p := by show _ = ((cycleM m).acc ++ [_]).length; rw [List.length_append]; rfl) : p := h
theorem y_b3 {p : Prop} (h : p := by rw [passes_snoc hoi, ← hZ]; rfl) : p := h
theorem y_b4 {p : Prop} (h : p := by rw [Bool.eq_iff_iff]; simp; omega) : p := h
theorem y_b5 {p : Prop} (h : p := by simp [Ck.held]) : p := h
theorem y_b6 {p : Prop} (h : p := by rw [List.length_map, h.lV]) : p := h
theorem y_b7 {p : Prop} (h : p := by rw [List.length_map, h.lO]) : p := h
theorem y_b8 {p : Prop} (h : p := by rw [Bool.eq_iff_iff]; simp) : p := h
theorem y_b9 {p : Prop} (h : p := by unfold modeU; simp_all <;> omega) : p := h
theorem y_ca {p : Prop} (h : p := by rw [lveq_refl (ks := [.int .i64, .int .i64, .int .u16, .int .i64, .int .i64, .int .i64, .int .i64, .int .u16, .bool]) rfl]; rfl) : p := h
theorem y_cb {p : Prop} (h : p := by intro _ _ _ hK; obtain ⟨_, ⟨_, _, rfl⟩, rfl⟩ := hK; exact fun x hx => by repeat (first | exact hx | refine .tail _ ?_)) : p := h
theorem y_cc {p : Prop} (h : p := by simp only [List.map_toArray, List.map_cons, List.map_nil]; rfl) : p := h
theorem y_cd {p : Prop} (h : p := by rw [cBd_len (hPK.beginW (k / 5)).ln]; rfl) : p := h
theorem y_ce {p : Prop} (h : p := by rw [cBd_len hWO, cBd_len bdZ_wf]; decide) : p := h
theorem y_cf {p : Prop} (h : p := by rw [cBd_len hPK, cBd_len bdZ_wf]; decide) : p := h
theorem y_cg {p : Prop} (h : p := by simp [hab]) : p := h
theorem y_ch {p : Prop} (h : p := by rw [cBd_len (show (if decide (x / 128 = 1) = true then onB B else offB B).Wf by split; exact hB.onW; exact hB.off)]; rfl) : p := h
theorem y_ci {p : Prop} (h : p := by rw [cBd_len hB, cBd_len bdZ_wf]; decide) : p := h
theorem y_cj {p : Prop} (h : p := by first | exact srow_own m_m | exact srow_own_at m_m _ 5 rfl) : p := h
theorem y_ck {p : Prop} (h : p := by simp_all) : p := h
theorem y_cl {p : Prop} (h : p := by rw [hs9]) : p := h
theorem y_cm {p : Prop} (h : p := by unfold tickU; rw [if_pos hlit]) : p := h
theorem y_cn {p : Prop} (h : p := by show 0 ≤ (if everyB b = 0 then 8 else everyB b) ∧ (if everyB b = 0 then 8 else everyB b) < 65536; split <;> omega) : p := h
theorem y_co {p : Prop} (h : p := by unfold secCk dayCk; simp only [e1, e2, e3, e4, ne_eq, not_true_eq_false, not_false_eq_true, if_true, if_false]; rfl) : p := h
theorem y_cp {p : Prop} (h : p := by rw [List.take_length] at hV0; exact hV0) : p := h
theorem y_cq {p : Prop} (h : p := by simp only [List.length_append, List.length_map, List.length_take, List.length_drop, List.length_singleton]; omega) : p := h
theorem y_cr {p : Prop} (h : p := by first | exact row_own m_m | exact row_own_at m_m _ 1 rfl) : p := h
theorem y_cs {p : Prop} (h : p := by simp at *; unfold cmpI; split <;> (try split) <;> omega) : p := h
theorem y_ct {p : Prop} (h : p := by rw [h1]; decide) : p := h
theorem y_cu {p : Prop} (h : p := by have := of_decide_eq_true hf9; omega) : p := h
theorem y_cv {p : Prop} (h : p := by rw [upTo_len (Nat.le_refl _)]; simp) : p := h
theorem y_cw {p : Prop} (h : p := by rw [setV_setV]) : p := h
theorem y_cx {p : Prop} (h : p := by rw [beat_step]) : p := h
theorem y_cy {p : Prop} (h : p := by cases hp; exact st_off (o := blk _ 5) hw2 (.head _)) : p := h
theorem y_cz {p : Prop} (h : p := by unfold fromCp; dsimp only; (repeat (first | rw [if_pos o_m] | rw [if_neg o_m])); first | done | rfl) : p := h
theorem y_cA {p : Prop} (h : p := by rw [e9]; rfl) : p := h
theorem y_cB {p : Prop} (h : p := by unfold beginPt; dsimp only; omega) : p := h
theorem y_cC {p : Prop} (h : p := by rw [← Int.natCast_mul]; omega) : p := h
theorem y_cD {p : Prop} (h : p := by simp [h.lR]; omega) : p := h
theorem y_cE {p : Prop} (h : p := by show 1 ≤ (lg (K.idle m)).length; rw [hA.idle, List.length_append]; exact Nat.le_add_left _ _) : p := h
theorem y_cF {p : Prop} (h : p := by rw [← hh8]) : p := h
theorem y_cG {p : Prop} (h : p := by rw [cMm_len h.ln, cBd_len (h.bd.write (a - 65296) hx).ln]; exact Nat.le_of_ble_eq_true rfl) : p := h
theorem y_cH {p : Prop} (h : p := by show _ - (i + 1) < _ - i; omega) : p := h
theorem y_cI {p : Prop} (h : p := by first | (rintro ⟨q7, h9⟩; omega) | (rintro ⟨q7, h9⟩; rw [hon9] at q7; cases q7)) : p := h
theorem y_cJ {p : Prop} (h : p := by rw [List.length_map, h.work]) : p := h
theorem y_cK {p : Prop} (h : p := by simp only [newM0, List.map_replicate]; rfl) : p := h
theorem y_cL {p : Prop} (h : p := by rw [show readB n B = 255 from if_pos o_m]) : p := h
theorem y_cM {p : Prop} (h : p := by rw [foldQ_take hq, putQ]; exact h.sub (.cons_cons _ (.cons _ (List.Sublist.refl _)))) : p := h
theorem y_cN {p : Prop} (h : p := by simp only [List.length_singleton]; omega) : p := h
theorem y_cO {p : Prop} (h : p := by unfold onV; rw [hon9]; rfl) : p := h
theorem y_cP {p : Prop} (h : p := by rw [h.lR]; exact hj) : p := h
theorem y_cQ {p : Prop} (h : p := by rw [Nat.zero_add]; exact map_at (l := romG g) (j := (308 + (a % 26).toNat)) o_m) : p := h
theorem y_cR {p : Prop} (h : p := by simp [flat4, h.lV]; omega) : p := h
theorem y_cS {p : Prop} (h : p := by simp [h.lO, h.lR]; omega) : p := h
theorem y_cT {p : Prop} (h : p := by rw [cMm_len q2.ln, cBd_len q2.bd.tick.ln]; exact Nat.le_of_ble_eq_true rfl) : p := h
theorem y_cU {p : Prop} (h : p := by rw [cMmR_eq (List.length_replicate)]) : p := h
theorem y_cV {p : Prop} (h : p := by unfold readB; rw [if_neg o_m, if_neg o_m, if_pos o_m, Int.toNat_natCast]) : p := h
theorem y_cW {p : Prop} (h : p := by rw [cBd_len hX9]; simp only [List.length_cons, List.length_nil]; omega) : p := h
theorem y_cX {p : Prop} (h : p := by rw [cBd_len hX2]; simp only [List.length_cons, List.length_nil]; omega) : p := h
theorem y_cY {p : Prop} (h : p := by rw [cBd_len hW9]; simp only [List.length_cons, List.length_nil]; omega) : p := h
theorem y_cZ {p : Prop} (h : p := by rw [cBd_len hC9]; simp only [List.length_cons, List.length_nil]; omega) : p := h
theorem y_c0 {p : Prop} (h : p := by simp [hl]) : p := h
theorem y_c1 {p : Prop} (h : p := by rw [show 144 * 160 = u.P.length by rw [hu.lP], List.take_length]; rfl) : p := h
theorem y_c2 {p : Prop} (h : p := by rw [midM_len]) : p := h
theorem y_c3 {p : Prop} (h : p := by rw [flat4, hB.lV]; rfl) : p := h
theorem y_c4 {p : Prop} (h : p := by rw [cBd_len h.bd]; rfl) : p := h
theorem y_c5 {p : Prop} (h : p := by have h9 := hrp j _ (by rw [List.getElem?_map, hx0]; rfl); exact h9) : p := h
theorem y_c6 {p : Prop} (h : p := by rw [v_set hB hn]; rfl) : p := h
theorem y_c7 {p : Prop} (h : p := by rw [show letsCp (cycleM m).cp a = true by simpa using q0]; decide) : p := h
theorem y_c8 {p : Prop} (h : p := by rw [cBd_len hWL]; rfl) : p := h
theorem y_c9 {p : Prop} (h : p := by rw [List.length_map, hu.lR]; rfl) : p := h
theorem y_da {p : Prop} (h : p := by rw [lveq_refl (ks := [.int .i64, .int .u16, .int .u8]) rfl]; rfl) : p := h
theorem y_db {p : Prop} (h : p := by rw [if_pos o_m]) : p := h
theorem y_dc {p : Prop} (h : p := by rw [if_neg o_m]) : p := h
theorem y_dd {p : Prop} (h : p := by rw [(show isP o.kind = false from decide_eq_false o_m)]; decide) : p := h
theorem y_de {p : Prop} (h : p := by show (b.vs.set n x).length = 4; rw [List.length_set]; exact h.lV) : p := h
theorem y_df {p : Prop} (h : p := by unfold askV; have q4 : (askU u).sig = sigU u := rfl; simp_all) : p := h
theorem y_dg {p : Prop} (h : p := by unfold readB; rw [if_neg o_m, if_pos o_m, Int.toNat_natCast]) : p := h
theorem y_dh {p : Prop} (h : p := by rw [cBd_len (hPK.beginW (k / 5)).ln, cBd_len bdZ_wf]; decide) : p := h
theorem y_di {p : Prop} (h : p := by rw [List.length_append, headM_len, List.length_map, h.bd.lR]) : p := h
theorem y_dj {p : Prop} (h : p := by first | exact srow_own m_m | exact srow_own_at m_m _ 160 rfl) : p := h
theorem y_dk {p : Prop} (h : p := by show _ = (chkH l i - (l.getD (308 + i) 0 + 1)) % 256; omega) : p := h
theorem y_dl {p : Prop} (h : p := by rw [← z8_all hl, nU_len (z8_ln hl (Nat.le_refl _))]; rfl) : p := h
theorem y_dm {p : Prop} (h : p := by rw [wrap_i64 o_m o_m]; omega) : p := h
theorem y_dn {p : Prop} (h : p := by rw [List.length_drop]; omega) : p := h
theorem y_do {p : Prop} (h : p := by first | (rw [cBd_len hN2]; rfl) | (rw [cBd_len hN3]; rfl)) : p := h
theorem y_dp {p : Prop} (h : p := by simp [h.lP]; omega) : p := h
theorem y_dq {p : Prop} (h : p := by simp [h.lO]; omega) : p := h
theorem y_dr {p : Prop} (h : p := by rw [cBd_len hB.off.ln]; rfl) : p := h
theorem y_ds {p : Prop} (h : p := by show _ = totD l (i + 1); rw [totD_s]; rw [if_pos o_m]) : p := h
theorem y_dt {p : Prop} (h : p := by rw [hB.lV]; omega) : p := h
theorem y_du {p : Prop} (h : p := by have h9 := hrx.at cChg_len hcx0 1 rfl; simpa using h9) : p := h
theorem y_dv {p : Prop} (h : p := by have h9 := hrx.at cChg_len hcx0 0 rfl; simpa using h9) : p := h
theorem y_dw {p : Prop} (h : p := by have := inv_enc hi9; omega) : p := h
theorem y_dx {p : Prop} (h : p := by rw [cMm_len q4.ln]; exact Nat.le_of_ble_eq_true rfl) : p := h
theorem y_dy {p : Prop} (h : p := by rw [Nat.zero_add]; exact putBd_r hB (j := k) o_m _) : p := h
theorem y_dz {p : Prop} (h : p := by intro x hx; rw [List.mem_singleton.1 hx]; exact ho) : p := h
theorem y_dA {p : Prop} (h : p := by rw [best_step hcx0, hb]; exact better_no (.inl o_m)) : p := h
theorem y_dB {p : Prop} (h : p := by rw [hon9]) : p := h
theorem y_dC {p : Prop} (h : p := by show (cycleM m).acc ++ _ = _; rw [cycleM_acc]; rfl) : p := h
theorem y_dD {p : Prop} (h : p := by rw [cU_len hu, List.length_map, rowU_len]; omega) : p := h
theorem y_dE {p : Prop} (h : p := by rw [cBd_len (h.bd.write (a - 65296) hx).ln]; rfl) : p := h
theorem y_dF {p : Prop} (h : p := by simp [r4_len h]) : p := h
theorem y_dG {p : Prop} (h : p := by rw [hu.lV]; rfl) : p := h
theorem y_dH {p : Prop} (h : p := by rw [h4]; decide) : p := h
theorem y_dI {p : Prop} (h : p := by have := inv_ram (R := newM (romG g)) hin; omega) : p := h
theorem y_dJ {p : Prop} (h : p := by have := inv_ram (R := newM (romG g)) hil; omega) : p := h
theorem y_dK {p : Prop} (h : p := by have := inv_ram (R := newM (romG g)) hia; omega) : p := h
theorem y_dL {p : Prop} (h : p := by first | exact as_u64 o_m o_m | exact as_u64m _) : p := h
theorem y_dM {p : Prop} (h : p := by (try simp only [decide_eq_true_eq, decide_eq_false_iff_not, beq_iff_eq, beq_eq_false_iff_ne, bne_iff_ne, bne_eq_false_iff_eq, ne_eq] at *); omega) : p := h
theorem y_dN {p : Prop} (h : p := by first | exact idx_array1 0 rfl rfl rfl rfl y_c | exact idx_slice1 0 rfl rfl rfl rfl y_c | exact idx_array 0 rfl rfl rfl rfl y_c | exact idx_slice 0 rfl rfl rfl rfl y_c) : p := h
theorem y_dO {p : Prop} (h : p := by first | exact as_mask 4 16 y_c rfl o_m (show _ < (256 : Int) by omega) (show _ < (256 : Int) by decide) | rfl) : p := h
theorem y_dP {p : Prop} (h : p := by first | exact idx_array1 4 rfl rfl rfl rfl y_c | exact idx_slice1 4 rfl rfl rfl rfl y_c | exact idx_array 4 rfl rfl rfl rfl y_c | exact idx_slice 4 rfl rfl rfl rfl y_c) : p := h
theorem y_dQ {p : Prop} (h : p := by first | (intro h; cases h; done) | (intro _ _ _ hK; obtain ⟨rfl, rfl⟩ := hK; exact (fun x hx => y_n))) : p := h
theorem y_dR {p : Prop} (h : p := by first | exact as_mask 3 8 y_c rfl o_m (show _ < (256 : Int) by omega) (show _ < (256 : Int) by decide) | rfl) : p := h
theorem y_dS {p : Prop} (h : p := by first | exact idx_array1 3 rfl rfl rfl rfl y_c | exact idx_slice1 3 rfl rfl rfl rfl y_c | exact idx_array 3 rfl rfl rfl rfl y_c | exact idx_slice 3 rfl rfl rfl rfl y_c) : p := h
theorem y_dT {p : Prop} (h : p := by first | exact as_shl 16 y_c o_m (show _ < (256 : Int) by omega) | exact as_shl8 16 y_c | rfl) : p := h
theorem y_dU {p : Prop} (h : p := by first | exact idx_array1 1 rfl rfl rfl rfl y_c | exact idx_slice1 1 rfl rfl rfl rfl y_c | exact idx_array 1 rfl rfl rfl rfl y_c | exact idx_slice 1 rfl rfl rfl rfl y_c) : p := h
theorem y_dV {p : Prop} (h : p := by first | exact as_bit 7 y_c o_m (show _ < (256 : Int) by omega) (show _ < (256 : Int) by decide) | rfl) : p := h
theorem y_dW {p : Prop} (h : p := by first | exact as_mask 1 2 y_c rfl o_m (show _ < (256 : Int) by omega) (show _ < (256 : Int) by decide) | rfl) : p := h
theorem y_dX {p : Prop} (h : p := by first | exact idx_array1 2 rfl rfl rfl rfl y_c | exact idx_slice1 2 rfl rfl rfl rfl y_c | exact idx_array 2 rfl rfl rfl rfl y_c | exact idx_slice 2 rfl rfl rfl rfl y_c) : p := h
theorem y_dY {p : Prop} (h : p := by first | exact as_shl 256 y_c o_m (show _ < (65536 : Int) by omega) | exact as_shl16 256 y_c | rfl) : p := h
theorem y_dZ {p : Prop} (h : p := by rw [upTo_len y_a]; simp only [List.length_cons, List.length_nil]; (try simp only [decide_eq_true_eq, decide_eq_false_iff_not, beq_iff_eq, beq_eq_false_iff_ne, bne_iff_ne, bne_eq_false_iff_eq, ne_eq] at *); omega) : p := h
theorem y_d0 {p : Prop} (h : p := by unfold Func.isWrapper; first | (rw [if_pos y_A]; kernel_rfl) | (rw [if_neg y_A]; exact ⟨rfl, rfl⟩)) : p := h
theorem y_d1 {p : Prop} (h : p := by intro _ _ _ hK; obtain ⟨G, _, rfl⟩ := hK; exact fun x hx => y_v) : p := h
theorem y_d2 {p : Prop} (h : p := by first | exact as_shl 256 y_c o_m (show _ < (9223372036854775808 : Int) by omega) | rfl) : p := h
theorem y_d3 {p : Prop} (h : p := by first | exact as_mask 1 2 y_c rfl o_m (show _ < (65536 : Int) by omega) (show _ < (65536 : Int) by decide) | rfl) : p := h
theorem y_d4 {p : Prop} (h : p := by first | exact as_bit 2 y_c o_m (show _ < (256 : Int) by omega) (show _ < (256 : Int) by decide) | rfl) : p := h
theorem y_d5 {p : Prop} (h : p := by unfold joinedFacts; (iterate 31 refine and_i y_A ?_); decide +kernel) : p := h
theorem y_d6 {p : Prop} (h : p := by rw [cU_len ((hu.dot_ (x := 0) y_c).line_ (x := u.line + 1) o_m)]; simp only [List.length_cons, List.length_nil]; (try simp only [decide_eq_true_eq, decide_eq_false_iff_not, beq_iff_eq, beq_eq_false_iff_ne, bne_iff_ne, bne_eq_false_iff_eq, ne_eq] at *); omega) : p := h
theorem y_d7 {p : Prop} (h : p := by rw [e9]; exact hG) : p := h
theorem y_d8 {p : Prop} (h : p := by dsimp only; omega) : p := h
theorem y_d9 {p : Prop} (h : p := by rcases (show j < i ∨ j = i by omega) with h9 | rfl; exact hj j h9; exact q2n) : p := h
theorem y_ea {p : Prop} (h : p := by intro _ _ _ hK; obtain ⟨_, _, rfl⟩ := hK; exact fun x hx => y_v) : p := h
theorem y_eb {p : Prop} (h : p := by first | exact as_bit 6 y_c o_m (show _ < (256 : Int) by omega) (show _ < (256 : Int) by decide) | rfl) : p := h
theorem y_ec {p : Prop} (h : p := by first | exact as_bit 4 y_c o_m (show _ < (256 : Int) by omega) (show _ < (256 : Int) by decide) | rfl) : p := h
theorem y_ed {p : Prop} (h : p := by rw [e9, if_neg y_c]) : p := h
theorem y_ee {p : Prop} (h : p := by first | exact as_shl 2 y_c o_m (show _ < (256 : Int) by omega) | exact as_shl8 2 y_c | rfl) : p := h
theorem y_ef {p : Prop} (h : p := by have h9 := (rowM_cp (row_old hm y_z w hw)) 0 _ rfl; exact h9) : p := h
theorem y_eg {p : Prop} (h : p := by rw [write_R _ hno y_a]) : p := h
theorem y_eh {p : Prop} (h : p := by have h9 := (srow_old hrx y_z w hw).at cChg_len hcx0 0 rfl; simpa using h9) : p := h
theorem y_ei {p : Prop} (h : p := by intro _ _ _ hK; obtain ⟨_, rfl, rfl⟩ := hK; exact fun x hx => y_v) : p := h
theorem y_ej {p : Prop} (h : p := by have h9 := (row_own (b := b1) (l := (flipL (romG g) (308 + (a % 26).toNat) x).map (Value.int .u8)) y_l w hw).takeK (65536 - z); exact h9) : p := h
theorem y_ek {p : Prop} (h : p := by have h9 := (row_old hr y_z w hw).at cSg_len hsi 0 rfl; simpa using h9) : p := h
theorem y_el {p : Prop} (h : p := by unfold writeBd; rw [if_neg o_m, if_neg o_m, if_neg y_J, if_neg o_m, Int.toNat_natCast]; unfold voiceB; rw [if_neg o_m, if_neg o_m]) : p := h
theorem y_em {p : Prop} (h : p := by unfold placeV; rw [if_neg y_a, if_neg y_a]) : p := h
theorem y_en {p : Prop} (h : p := by unfold writeBd; rw [if_neg o_m, if_neg o_m, if_neg y_J, if_neg o_m, Int.toNat_natCast]; unfold voiceB; rw [if_pos o_m]) : p := h
theorem y_eo {p : Prop} (h : p := by first | exact as_mask 12 4096 y_c rfl o_m (show _ < (65536 : Int) by omega) (show _ < (65536 : Int) by decide) | rfl) : p := h
theorem y_ep {p : Prop} (h : p := by first | exact as_mask 6 64 y_c rfl o_m (show _ < (256 : Int) by omega) (show _ < (256 : Int) by decide) | rfl) : p := h
theorem y_eq {p : Prop} (h : p := by first | exact as_mask 5 32 y_c rfl o_m (show _ < (256 : Int) by omega) (show _ < (256 : Int) by decide) | rfl) : p := h
theorem y_er {p : Prop} (h : p := by rw [rowU_len]; omega) : p := h
theorem y_es {p : Prop} (h : p := by first | exact as_bit 3 y_c o_m (show _ < (256 : Int) by omega) (show _ < (256 : Int) by decide) | rfl) : p := h
theorem y_et {p : Prop} (h : p := by intro _ _ _ hK; obtain ⟨_, ⟨rfl, va', Ga', hV', rfl⟩, rfl⟩ := hK; exact (fun x hx => y_bo)) : p := h
theorem y_eu {p : Prop} (h : p := by first | exact as_shl 128 y_c o_m (show _ < (256 : Int) by omega) | exact as_shl8 128 y_c | rfl) : p := h
theorem y_ev {p : Prop} (h : p := by rcases (show i = 0 ∨ i = 1 ∨ i = 2 ∨ i = 3 by omega) with rfl | rfl | rfl | rfl <;> rfl) : p := h
theorem y_ew {p : Prop} (h : p := by simp at *; omega) : p := h
theorem y_ex {p : Prop} (h : p := by first | exact as_shl 32 y_c o_m (show _ < (9223372036854775808 : Int) by omega) | rfl) : p := h
theorem y_ey {p : Prop} (h : p := by unfold writeBd; rw [if_neg o_m, if_neg o_m, if_neg y_J, if_pos o_m, Int.toNat_natCast]) : p := h
theorem y_ez {p : Prop} (h : p := by intro _ _ _ hK; obtain ⟨_, ⟨rfl, rfl⟩, rfl⟩ := hK; exact (fun x hx => y_bo)) : p := h
theorem y_eA {p : Prop} (h : p := by unfold beginB; dsimp only; rw [if_neg y_c, if_neg (show ¬ byB B = 0 from q1n)]) : p := h
theorem y_eB {p : Prop} (h : p := by unfold beginB; dsimp only; rw [if_neg y_c, if_pos (show byB B = 0 from q1n)]) : p := h
theorem y_eC {p : Prop} (h : p := by intro _ _ _ hK; obtain ⟨_, rfl, rfl⟩ := hK; exact (fun x hx => y_n)) : p := h
theorem y_eD {p : Prop} (h : p := by rw [tabL_len hP (by simp [tabB]), cO_len]; have := hq1 i y_a; omega) : p := h
theorem y_eE {p : Prop} (h : p := by dsimp only; have := hq1 i y_a; rw [wrap_i64 y_cC y_cC]; simp) : p := h
theorem y_eF {p : Prop} (h : p := by rw [List.take_length]) : p := h
theorem y_eG {p : Prop} (h : p := by dsimp only; have := hq1 i y_a; rw [wrap_i64 o_m o_m]; omega) : p := h
theorem y_eH {p : Prop} (h : p := by unfold numU; rw [if_pos y_a]) : p := h
theorem y_eI {p : Prop} (h : p := by cases h) : p := h
theorem y_eJ {p : Prop} (h : p := by rw [e9]) : p := h
theorem y_eK {p : Prop} (h : p := by decide) : p := h
theorem D_2 {p q : Prop} (k_ : q) (h : Wr q → p := by intro k_; (iterate 2 refine G_D ?_); exact k_.u) : p := h ⟨k_⟩
theorem D_3 {p q : Prop} (k_ : q) (h : Wr q → p := by intro k_; (iterate 3 refine G_D ?_); exact k_.u) : p := h ⟨k_⟩
theorem D_4 {p q : Prop} (k_ : q) (h : Wr q → p := by intro k_; (iterate 4 refine G_D ?_); exact k_.u) : p := h ⟨k_⟩
theorem D_5 {p q : Prop} (k_ : q) (h : Wr q → p := by intro k_; (iterate 5 refine G_D ?_); exact k_.u) : p := h ⟨k_⟩
theorem D_6 {p q : Prop} (k_ : q) (h : Wr q → p := by intro k_; (iterate 6 refine G_D ?_); exact k_.u) : p := h ⟨k_⟩
theorem D_7 {p q : Prop} (k_ : q) (h : Wr q → p := by intro k_; (iterate 7 refine G_D ?_); exact k_.u) : p := h ⟨k_⟩
theorem D_8 {p q : Prop} (k_ : q) (h : Wr q → p := by intro k_; (iterate 8 refine G_D ?_); exact k_.u) : p := h ⟨k_⟩
theorem D_9 {p q : Prop} (k_ : q) (h : Wr q → p := by intro k_; (iterate 9 refine G_D ?_); exact k_.u) : p := h ⟨k_⟩
theorem D_10 {p q : Prop} (k_ : q) (h : Wr q → p := by intro k_; (iterate 10 refine G_D ?_); exact k_.u) : p := h ⟨k_⟩
theorem D_11 {p q : Prop} (k_ : q) (h : Wr q → p := by intro k_; (iterate 11 refine G_D ?_); exact k_.u) : p := h ⟨k_⟩
theorem D_12 {p q : Prop} (k_ : q) (h : Wr q → p := by intro k_; (iterate 12 refine G_D ?_); exact k_.u) : p := h ⟨k_⟩
theorem D_13 {p q : Prop} (k_ : q) (h : Wr q → p := by intro k_; (iterate 13 refine G_D ?_); exact k_.u) : p := h ⟨k_⟩
theorem D_14 {p q : Prop} (k_ : q) (h : Wr q → p := by intro k_; (iterate 14 refine G_D ?_); exact k_.u) : p := h ⟨k_⟩
theorem D_21 {p q : Prop} (k_ : q) (h : Wr q → p := by intro k_; (iterate 21 refine G_D ?_); exact k_.u) : p := h ⟨k_⟩
theorem D_28 {p q : Prop} (k_ : q) (h : Wr q → p := by intro k_; (iterate 28 refine G_D ?_); exact k_.u) : p := h ⟨k_⟩
theorem D_40 {p q : Prop} (k_ : q) (h : Wr q → p := by intro k_; (iterate 40 refine G_D ?_); exact k_.u) : p := h ⟨k_⟩
theorem D_53 {p q : Prop} (k_ : q) (h : Wr q → p := by intro k_; (iterate 53 refine G_D ?_); exact k_.u) : p := h ⟨k_⟩
theorem L_2 {p q : Prop} (k_ : q) (h : Wr q → p := by intro k_; (iterate 2 refine G_L ?_); exact k_.u) : p := h ⟨k_⟩
theorem L_3 {p q : Prop} (k_ : q) (h : Wr q → p := by intro k_; (iterate 3 refine G_L ?_); exact k_.u) : p := h ⟨k_⟩
theorem L_4 {p q : Prop} (k_ : q) (h : Wr q → p := by intro k_; (iterate 4 refine G_L ?_); exact k_.u) : p := h ⟨k_⟩
theorem L_5 {p q : Prop} (k_ : q) (h : Wr q → p := by intro k_; (iterate 5 refine G_L ?_); exact k_.u) : p := h ⟨k_⟩
theorem L_6 {p q : Prop} (k_ : q) (h : Wr q → p := by intro k_; (iterate 6 refine G_L ?_); exact k_.u) : p := h ⟨k_⟩
theorem L_7 {p q : Prop} (k_ : q) (h : Wr q → p := by intro k_; (iterate 7 refine G_L ?_); exact k_.u) : p := h ⟨k_⟩
theorem L_8 {p q : Prop} (k_ : q) (h : Wr q → p := by intro k_; (iterate 8 refine G_L ?_); exact k_.u) : p := h ⟨k_⟩
theorem L_9 {p q : Prop} (k_ : q) (h : Wr q → p := by intro k_; (iterate 9 refine G_L ?_); exact k_.u) : p := h ⟨k_⟩
theorem L_11 {p q : Prop} (k_ : q) (h : Wr q → p := by intro k_; (iterate 11 refine G_L ?_); exact k_.u) : p := h ⟨k_⟩
theorem L_12 {p q : Prop} (k_ : q) (h : Wr q → p := by intro k_; (iterate 12 refine G_L ?_); exact k_.u) : p := h ⟨k_⟩
theorem L_13 {p q : Prop} (k_ : q) (h : Wr q → p := by intro k_; (iterate 13 refine G_L ?_); exact k_.u) : p := h ⟨k_⟩
theorem L_14 {p q : Prop} (k_ : q) (h : Wr q → p := by intro k_; (iterate 14 refine G_L ?_); exact k_.u) : p := h ⟨k_⟩
theorem L_16 {p q : Prop} (k_ : q) (h : Wr q → p := by intro k_; (iterate 16 refine G_L ?_); exact k_.u) : p := h ⟨k_⟩
theorem L_18 {p q : Prop} (k_ : q) (h : Wr q → p := by intro k_; (iterate 18 refine G_L ?_); exact k_.u) : p := h ⟨k_⟩
theorem L_19 {p q : Prop} (k_ : q) (h : Wr q → p := by intro k_; (iterate 19 refine G_L ?_); exact k_.u) : p := h ⟨k_⟩
theorem L_20 {p q : Prop} (k_ : q) (h : Wr q → p := by intro k_; (iterate 20 refine G_L ?_); exact k_.u) : p := h ⟨k_⟩
theorem L_23 {p q : Prop} (k_ : q) (h : Wr q → p := by intro k_; (iterate 23 refine G_L ?_); exact k_.u) : p := h ⟨k_⟩
theorem L_24 {p q : Prop} (k_ : q) (h : Wr q → p := by intro k_; (iterate 24 refine G_L ?_); exact k_.u) : p := h ⟨k_⟩
theorem L_28 {p q : Prop} (k_ : q) (h : Wr q → p := by intro k_; (iterate 28 refine G_L ?_); exact k_.u) : p := h ⟨k_⟩
theorem ZAA {p q : Prop} (k_ : q) (h : Wr q → p := by
 intro k_
 refine ZA0 ?_
 refine ZAP ?_
 exact k_.u) : p := h ⟨k_⟩
theorem ZAB {p q : Prop} (k_ : q) (h : Wr q → p := by
 intro k_
 refine Rl ?_
 refine ZAb ?_
 exact k_.u) : p := h ⟨k_⟩
theorem ZAC {p q : Prop} (k_ : q) (h : Wr q → p := by
 intro k_
 simp only [List.cons_append, List.nil_append, List.append_nil, List.set_cons_zero, List.set_cons_succ]
 exact k_.u) : p := h ⟨k_⟩
theorem ZAD {p : Prop} (h : p := by
 refine ZAb ?_
 refine KC (fun q3 q3n => ?_) (fun q3 q3n => ?_)
 ·refine c_skip ?_
  refine c_sure true rfl q3 ?_
  refine c_region ?_
  refine RX (x_callT (F := [(b1, blk (cBd bdZ) 131)]) (A := [(b0, blk (cBd (halfB ({ B with div := 0 } : Bd))) 131)]) (R := fun v H => v = .tuple #[] ∧ H = [(b0, blk (cBd (slideB (halfB ({ B with div := 0 } : Bd)))) 131)]) call_353 rfl (fun w hw => slideB_fn b0 (halfB ({ B with div := 0 } : Bd)) hH w (St.lentV hw))) rfl ?_
  rintro _ _ ⟨_, ⟨rfl, rfl⟩, rfl⟩
  simp only [List.cons_append, List.nil_append]
  refine l_nil ?_
  refine c_seq ?_
  have hh8 : slideB (halfB ({ B with div := 0 } : Bd)) = (beatB ({ B with div := 0 } : Bd)) := by unfold beatB; rw [if_pos (show B.step = 2 ∨ B.step = 6 by omega)]
  refine c_heap (L' := [(b1, blk (cBd bdZ) 131), (b0, blk (cBd (beatB ({ B with div := 0 } : Bd))) 131)]) (fun w h => h.as y_cF) ?_
  refine c_region ?_
  refine RLa ?_
  refine RZ (x_load rfl rfl (at_own (v := .int .i64 B.step) m_m ((cBd_step hE).trans y_cx))) rfl ?_
  refine RW (l_add rfl rfl) rfl y_d ?_
  refine RW (rem_pos rfl rfl y_c) rfl y_T ?_
  refine RLa ?_
  refine RZ (x_storeTo (l' := cBd (({ (beatB ({ B with div := 0 } : Bd)) with step := (B.step + 1) % 8 } : Bd))) 1 rfl rfl rfl rfl rfl rfl y_S (putBd_step hE _)) rfl ?_
  simp only [List.set_cons_zero, List.set_cons_succ]
  refine l_nil ?_
  refine ZAA ?_
  refine RZ (x_loadA rfl rfl y_Q (row_own (b := b0) (l := cBd ({ (beatB ({ B with div := 0 } : Bd)) with step := (B.step + 1) % 8 } : Bd)) m_m)) rfl ?_
  refine RZ (x_storeTo (l' := cBd ({ (beatB ({ B with div := 0 } : Bd)) with step := (B.step + 1) % 8 } : Bd)) 0 rfl rfl rfl y_Q (ones_cBd _) rfl y_bh (putZ hFN)) rfl ?_
  simp only [List.set_cons_zero, List.set_cons_succ]
  refine l_nil ?_
  refine c_ret ?_
  exact l_end0 (fun w hw => rets_cell rfl rfl y_Q (row_own (b := b1) (l := cBd ({ (beatB ({ B with div := 0 } : Bd)) with step := (B.step + 1) % 8 } : Bd)) m_m w hw)) ⟨rfl, y_I⟩
 ·refine c_region ?_
  refine L_2 ?_
  refine l_nil ?_
  refine KC (fun q4 q4n => ?_) (fun q4 q4n => ?_)
  ·refine c_region ?_
   refine RX (x_callT (F := [(b1, blk (cBd bdZ) 131)]) (A := [(b0, blk (cBd (halfB ({ B with div := 0 } : Bd))) 131)]) (R := fun v H => v = .tuple #[] ∧ H = [(b0, blk (cBd (slideB (halfB ({ B with div := 0 } : Bd)))) 131)]) call_353 rfl (fun w hw => slideB_fn b0 (halfB ({ B with div := 0 } : Bd)) hH w (St.lentV hw))) rfl ?_
   rintro _ _ ⟨_, ⟨rfl, rfl⟩, rfl⟩
   simp only [List.cons_append, List.nil_append]
   refine l_nil ?_
   refine c_seq ?_
   have hh8 : slideB (halfB ({ B with div := 0 } : Bd)) = (beatB ({ B with div := 0 } : Bd)) := by unfold beatB; rw [if_pos (show B.step = 2 ∨ B.step = 6 by omega)]
   refine c_heap (L' := [(b1, blk (cBd bdZ) 131), (b0, blk (cBd (beatB ({ B with div := 0 } : Bd))) 131)]) (fun w h => h.as y_cF) ?_
   refine c_region ?_
   refine RLa ?_
   refine RZ (x_load rfl rfl (at_own (v := .int .i64 B.step) m_m ((cBd_step hE).trans y_cx))) rfl ?_
   refine RW (l_add rfl rfl) rfl y_d ?_
   refine RW (rem_pos rfl rfl y_c) rfl y_T ?_
   refine RLa ?_
   refine RZ (x_storeTo (l' := cBd (({ (beatB ({ B with div := 0 } : Bd)) with step := (B.step + 1) % 8 } : Bd))) 1 rfl rfl rfl rfl rfl rfl y_S (putBd_step hE _)) rfl ?_
   simp only [List.set_cons_zero, List.set_cons_succ]
   refine l_nil ?_
   refine ZAA ?_
   refine RZ (x_loadA rfl rfl y_Q (row_own (b := b0) (l := cBd ({ (beatB ({ B with div := 0 } : Bd)) with step := (B.step + 1) % 8 } : Bd)) m_m)) rfl ?_
   refine RZ (x_storeTo (l' := cBd ({ (beatB ({ B with div := 0 } : Bd)) with step := (B.step + 1) % 8 } : Bd)) 0 rfl rfl rfl y_Q (ones_cBd _) rfl y_bh (putZ hFN)) rfl ?_
   simp only [List.set_cons_zero, List.set_cons_succ]
   refine l_nil ?_
   refine c_ret ?_
   exact l_end0 (fun w hw => rets_cell rfl rfl y_Q (row_own (b := b1) (l := cBd ({ (beatB ({ B with div := 0 } : Bd)) with step := (B.step + 1) % 8 } : Bd)) m_m w hw)) ⟨rfl, y_I⟩
  ·refine ZAA ?_
   refine L_2 ?_
   refine l_nil ?_
   refine KC (fun q5 q5n => ?_) (fun q5 q5n => ?_)
   ·refine c_region ?_
    refine RX (x_callT (F := [(b1, blk (cBd bdZ) 131)]) (A := [(b0, blk (cBd (halfB ({ B with div := 0 } : Bd))) 131)]) (R := fun v H => v = .tuple #[] ∧ H = [(b0, blk (cBd (levelsB (halfB ({ B with div := 0 } : Bd)))) 131)]) call_354 rfl (fun w hw => levelsB_fn b0 (halfB ({ B with div := 0 } : Bd)) hH w (St.lentV hw))) rfl ?_
    rintro _ _ ⟨_, ⟨rfl, rfl⟩, rfl⟩
    simp only [List.cons_append, List.nil_append]
    refine l_nil ?_
    refine c_seq ?_
    have hh8 : levelsB (halfB ({ B with div := 0 } : Bd)) = (beatB ({ B with div := 0 } : Bd)) := by unfold beatB; rw [if_neg (show ¬ (B.step = 2 ∨ B.step = 6) by omega), if_pos (show B.step = 7 by omega)]
    refine c_heap (L' := [(b1, blk (cBd bdZ) 131), (b0, blk (cBd (beatB ({ B with div := 0 } : Bd))) 131)]) (fun w h => h.as y_cF) ?_
    refine c_region ?_
    refine RLa ?_
    refine RZ (x_load rfl rfl (at_own (v := .int .i64 B.step) m_m ((cBd_step hE).trans y_cx))) rfl ?_
    refine RW (l_add rfl rfl) rfl y_d ?_
    refine RW (rem_pos rfl rfl y_c) rfl y_T ?_
    refine RLa ?_
    refine RZ (x_storeTo (l' := cBd (({ (beatB ({ B with div := 0 } : Bd)) with step := (B.step + 1) % 8 } : Bd))) 1 rfl rfl rfl rfl rfl rfl y_S (putBd_step hE _)) rfl ?_
    simp only [List.set_cons_zero, List.set_cons_succ]
    refine l_nil ?_
    refine ZAA ?_
    refine RZ (x_loadA rfl rfl y_Q (row_own (b := b0) (l := cBd ({ (beatB ({ B with div := 0 } : Bd)) with step := (B.step + 1) % 8 } : Bd)) m_m)) rfl ?_
    refine RZ (x_storeTo (l' := cBd ({ (beatB ({ B with div := 0 } : Bd)) with step := (B.step + 1) % 8 } : Bd)) 0 rfl rfl rfl y_Q (ones_cBd _) rfl y_bh (putZ hFN)) rfl ?_
    simp only [List.set_cons_zero, List.set_cons_succ]
    refine l_nil ?_
    refine c_ret ?_
    exact l_end0 (fun w hw => rets_cell rfl rfl y_Q (row_own (b := b1) (l := cBd ({ (beatB ({ B with div := 0 } : Bd)) with step := (B.step + 1) % 8 } : Bd)) m_m w hw)) ⟨rfl, y_I⟩
   ·refine c_skip ?_
    refine c_seq ?_
    have hh8 : (halfB ({ B with div := 0 } : Bd)) = (beatB ({ B with div := 0 } : Bd)) := by unfold beatB; rw [if_neg (show ¬ (B.step = 2 ∨ B.step = 6) by omega), if_neg (show ¬ B.step = 7 by omega)]
    refine c_heap (L' := [(b1, blk (cBd bdZ) 131), (b0, blk (cBd (beatB ({ B with div := 0 } : Bd))) 131)]) (fun w h => h.as y_cF) ?_
    refine c_region ?_
    refine RLa ?_
    refine RZ (x_load rfl rfl (at_own (v := .int .i64 B.step) m_m ((cBd_step hE).trans y_cx))) rfl ?_
    refine RW (l_add rfl rfl) rfl y_d ?_
    refine RW (rem_pos rfl rfl y_c) rfl y_T ?_
    refine RLa ?_
    refine RZ (x_storeTo (l' := cBd (({ (beatB ({ B with div := 0 } : Bd)) with step := (B.step + 1) % 8 } : Bd))) 1 rfl rfl rfl rfl rfl rfl y_S (putBd_step hE _)) rfl ?_
    simp only [List.set_cons_zero, List.set_cons_succ]
    refine l_nil ?_
    refine ZAA ?_
    refine RZ (x_loadA rfl rfl y_Q (row_own (b := b0) (l := cBd ({ (beatB ({ B with div := 0 } : Bd)) with step := (B.step + 1) % 8 } : Bd)) m_m)) rfl ?_
    refine RZ (x_storeTo (l' := cBd ({ (beatB ({ B with div := 0 } : Bd)) with step := (B.step + 1) % 8 } : Bd)) 0 rfl rfl rfl y_Q (ones_cBd _) rfl y_bh (putZ hFN)) rfl ?_
    simp only [List.set_cons_zero, List.set_cons_succ]
    refine l_nil ?_
    refine c_ret ?_
    exact l_end0 (fun w hw => rets_cell rfl rfl y_Q (row_own (b := b1) (l := cBd ({ (beatB ({ B with div := 0 } : Bd)) with step := (B.step + 1) % 8 } : Bd)) m_m w hw)) ⟨rfl, y_I⟩) : p := h
theorem ZAE {p q : Prop} (k_ : q) (h : Wr q → p := by
 intro k_
 refine L_2 ?_
 refine ZAb ?_
 exact k_.u) : p := h ⟨k_⟩
theorem ZAF {p q : Prop} (k_ : q) (h : Wr q → p := by
 intro k_
 refine ZBN ?_
 refine ZAB ?_
 exact k_.u) : p := h ⟨k_⟩
theorem ZAG {p q : Prop} (k_ : q) (h : Wr q → p := by
 intro k_
 refine ZA0 ?_
 refine ZAA ?_
 exact k_.u) : p := h ⟨k_⟩
theorem ZAH {p q : Prop} (k_ : q) (h : Wr q → p := by
 intro k_
 refine ZA3 ?_
 refine ZAb ?_
 exact k_.u) : p := h ⟨k_⟩
theorem ZAI {p q : Prop} (k_ : q) (h : Wr q → p := by
 intro k_
 refine ZAB ?_
 refine c_ret ?_
 exact k_.u) : p := h ⟨k_⟩
theorem ZAJ {p : Prop} (h : p := by
 have hC9 := hB.setV n (startV_ok hB n)
 rcases Nat.eq_zero_or_pos n with rfl | hn0
 ·refine c_region ?_
  refine Rl ?_
  refine l_sure false rfl rfl rfl y_c ?_
  refine l_nil ?_
  refine c_false rfl ?_
  refine c_skip ?_
  refine c_seq ?_
  have hP9 : ({ (B.setV 0 (startV B 0)) with pitch := (B.setV 0 (startV B 0)).r 3 + (B.setV 0 (startV B 0)).r 4 % 8 * 256 } : Bd).Wf := hC9.pitch_ (by have := hC9.r_ 3; omega)
  have hr3 := hC9.r_ 3
  have hr4 := hC9.r_ 4
  have hW9 : (waitB ({ (B.setV 0 (startV B 0)) with pitch := (B.setV 0 (startV B 0)).r 3 + (B.setV 0 (startV B 0)).r 4 % 8 * 256 } : Bd)).Wf := hP9.waitW
  have hS9 : (slidesB (waitB ({ (B.setV 0 (startV B 0)) with pitch := (B.setV 0 (startV B 0)).r 3 + (B.setV 0 (startV B 0)).r 4 % 8 * 256 } : Bd))).Wf := hW9.slidesW
  refine DR [7, 8, 9, 10, 11, 12, 13, 14] (pln [0, 2, 4, 6, 8, 10, 12, 14, 16, 18, 20, 22, 24, 26, 28, 30, 32, 34, 37]) ?_
  refine D_4 ?_
  refine DY rfl y_dS rfl ?_
  refine DL rfl rfl rfl (s_own m_m (cBd_r hC9 (j := 3) y_c)) rfl ?_
  refine DW rfl (l_conv rfl rfl rfl) rfl y_d ?_
  refine D_3 ?_
  refine DY rfl y_dP rfl ?_
  refine DL rfl rfl rfl (s_own m_m (cBd_r hC9 (j := 4) y_c)) rfl ?_
  refine DW rfl (l_and rfl rfl) rfl y_dR ?_
  refine DW rfl (l_conv rfl rfl rfl) rfl y_d ?_
  refine DW rfl (shl_pos rfl rfl y_c) rfl y_d2 ?_
  refine DW (v := (.int .i64 ((B.setV 0 (startV B 0)).r 3 + (B.setV 0 (startV B 0)).r 4 % 8 * 256))) rfl (l_or rfl rfl) rfl (congrArg (Value.int .i64) (bor_join' (A := (B.setV 0 (startV B 0)).r 4 % 8 * 256) o_m o_m o_m hr3)) ?_
  refine D_2 ?_
  refine DZ rfl (x_storeTo (l' := cBd (({ (B.setV 0 (startV B 0)) with pitch := (B.setV 0 (startV B 0)).r 3 + (B.setV 0 (startV B 0)).r 4 % 8 * 256 } : Bd))) 0 rfl rfl rfl rfl rfl rfl y_cZ (putBd_pitch hC9 _)) rfl n_h ?_
  simp only [List.set_cons_zero, List.set_cons_succ]
  refine d_nil ?_
  refine ZAA ?_
  refine Rl ?_
  refine RZ (x_callA call_328 rfl (fun w hw => waitB_fn b ({ (B.setV 0 (startV B 0)) with pitch := (B.setV 0 (startV B 0)).r 3 + (B.setV 0 (startV B 0)).r 4 % 8 * 256 } : Bd) hP9 w (St.lentA hw))) rfl ?_
  refine l_nil ?_
  refine ZAA ?_
  refine L_2 ?_
  refine RLv call_329 (fun w hw => everyB_fn b (waitB ({ (B.setV 0 (startV B 0)) with pitch := (B.setV 0 (startV B 0)).r 3 + (B.setV 0 (startV B 0)).r 4 % 8 * 256 } : Bd)) hW9 w (row_own m_m w hw)) ?_
  refine Rl ?_
  refine RLv call_330 (fun w hw => byB_fn b (waitB ({ (B.setV 0 (startV B 0)) with pitch := (B.setV 0 (startV B 0)).r 3 + (B.setV 0 (startV B 0)).r 4 % 8 * 256 } : Bd)) hW9 w (row_own m_m w hw)) ?_
  refine RY (l_or rfl rfl) rfl ?_
  refine RW (v := (.bool (decide (everyB (waitB ({ (B.setV 0 (startV B 0)) with pitch := (B.setV 0 (startV B 0)).r 3 + (B.setV 0 (startV B 0)).r 4 % 8 * 256 } : Bd)) ≠ 0 ∨ byB (waitB ({ (B.setV 0 (startV B 0)) with pitch := (B.setV 0 (startV B 0)).r 3 + (B.setV 0 (startV B 0)).r 4 % 8 * 256 } : Bd)) ≠ 0)))) rfl rfl (congrArg Value.bool (or_ne (every_ok _) (by_ok _))) ?_
  refine L_2 ?_
  refine RZ (x_storeTo (l' := cBd ((slidesB (waitB ({ (B.setV 0 (startV B 0)) with pitch := (B.setV 0 (startV B 0)).r 3 + (B.setV 0 (startV B 0)).r 4 % 8 * 256 } : Bd))))) 0 rfl rfl rfl rfl rfl rfl y_cY (putBd_slides hW9 _)) rfl ?_
  refine ZAH ?_
  refine ZAA ?_
  refine Rl ?_
  refine RLv call_330 (fun w hw => byB_fn b (slidesB (waitB ({ (B.setV 0 (startV B 0)) with pitch := (B.setV 0 (startV B 0)).r 3 + (B.setV 0 (startV B 0)).r 4 % 8 * 256 } : Bd))) hS9 w (row_own m_m w hw)) ?_
  refine ZAB ?_
  refine KC (fun q1 q1n => ?_) (fun q1 q1n => ?_)
  ·refine c_region ?_
   refine Rl ?_
   refine RZ (x_callA call_331 rfl (fun w hw => checkB_fn b (slidesB (waitB ({ (B.setV 0 (startV B 0)) with pitch := (B.setV 0 (startV B 0)).r 3 + (B.setV 0 (startV B 0)).r 4 % 8 * 256 } : Bd))) hS9 w (St.lentA hw))) rfl ?_
   refine l_nil ?_
   exact EN (List.Sublist.refl _) ⟨rfl, y_eA⟩
  ·refine c_skip ?_
   exact EN (List.Sublist.refl _) ⟨rfl, y_eB⟩
 ·refine c_region ?_
  refine Rl ?_
  refine l_sure true rfl rfl rfl (decide_eq_true o_m) ?_
  refine l_nil ?_
  refine c_true rfl ?_
  refine c_ret ?_
  exact EN (List.Sublist.refl _) ⟨rfl, by unfold beginB; dsimp only; rw [if_pos hn0]⟩) : p := h
theorem ZAK {p q : Prop} (k_ : q) (h : Wr q → p := by
 intro k_
 refine c_false rfl ?_
 refine ZAx ?_
 exact k_.u) : p := h ⟨k_⟩
theorem ZAL {p q : Prop} (k_ : q) (h : Wr q → p := by
 intro k_
 refine RW (v := (.int .i64 ((i + 1 : Nat) : Int))) rfl rfl (congrArg _ (succ_law o_m)) ?_
 refine ZAB ?_
 exact k_.u) : p := h ⟨k_⟩
theorem ZAM {p : Prop} (h : p := by
 refine c_block ?_
 refine c_loop (σ := Nat) [5, 6, 7, 50, 51, 52, 53, 54, 55, 56, 57, 58, 59, 60] (fun i => [(5, .int .u8 (onV B i)), (50, .int .i64 i)]) (fun _ => [(b0, blk (cBd B) 131)]) (fun i => i ≤ 4) (fun i => 4 - i) 0 ?_ ?_ ?_ ?_
 ·exact Nat.zero_le _
 ·exact .cons y_cO (.cons rfl .nil)
 ·exact fun _ h => h
 ·rintro i y11 hi
  refine ZAA ?_
  refine ZAB ?_
  refine c_seq ?_
  refine KC (fun q6 q6n => ?_) (fun q6 q6n => ?_)
  ·refine c_skip ?_
   refine c_seq ?_
   refine c_block ?_
   refine ZAA ?_
   refine Rl ?_
   refine RY (light_idxVs (l := flat cVc B.vs) (c := cVc (B.v i)) i rfl rfl rfl rfl rfl rfl o_m (flat4_cut B.vs i y_dt)) rfl ?_
   refine RX (x_alloc rfl) rfl ?_
   rintro _ _ ⟨b1, rfl, rfl⟩
   refine Rl ?_
   refine RZ s_t rfl ?_
   refine l_nil ?_
   refine ZAA ?_
   refine RLa ?_
   refine RZ (x_load rfl rfl (at_own (v := .bool (B.v i).on) m_m rfl)) rfl ?_
   refine l_nil ?_
   refine KC (fun q7 q7n => ?_) (fun q7 q7n => ?_)
   ·rcases (show i = 0 ∨ i = 1 ∨ i = 2 ∨ i = 3 by omega) with rfl | rfl | rfl | rfl
    ·refine c_region ?_
     refine L_2 ?_
     refine RY (shl_pos rfl rfl y_c) rfl ?_
     refine RW (v := (.int .u8 (onV B (0 + 1)))) (l_or rfl rfl) rfl (congrArg (Value.int .u8) (or_on B (n := 0) y_c q7)) ?_
     refine ZAB ?_
     refine c_region ?_
     refine RW (v := (.int .i64 ((0 + 1 : Nat) : Int))) rfl rfl (congrArg _ (succ_law o_m)) ?_
     refine ZAB ?_
     exact ⟨0 + 1, y_D, y_D, .cons rfl (.cons rfl .nil), a_g, fun _ h => h.sub (.cons _ (List.Sublist.refl _))⟩
    ·refine c_region ?_
     refine L_2 ?_
     refine RY (shl_pos rfl rfl y_c) rfl ?_
     refine RW (v := (.int .u8 (onV B (1 + 1)))) (l_or rfl rfl) rfl (congrArg (Value.int .u8) (or_on B (n := 1) y_c q7)) ?_
     refine ZAB ?_
     refine c_region ?_
     refine RW (v := (.int .i64 ((1 + 1 : Nat) : Int))) rfl rfl (congrArg _ (succ_law o_m)) ?_
     refine ZAB ?_
     exact ⟨1 + 1, y_D, y_D, .cons rfl (.cons rfl .nil), a_g, fun _ h => h.sub (.cons _ (List.Sublist.refl _))⟩
    ·refine c_region ?_
     refine L_2 ?_
     refine RY (shl_pos rfl rfl y_c) rfl ?_
     refine RW (v := (.int .u8 (onV B (2 + 1)))) (l_or rfl rfl) rfl (congrArg (Value.int .u8) (or_on B (n := 2) y_c q7)) ?_
     refine ZAB ?_
     refine c_region ?_
     refine RW (v := (.int .i64 ((2 + 1 : Nat) : Int))) rfl rfl (congrArg _ (succ_law o_m)) ?_
     refine ZAB ?_
     exact ⟨2 + 1, y_D, y_D, .cons rfl (.cons rfl .nil), a_g, fun _ h => h.sub (.cons _ (List.Sublist.refl _))⟩
    ·refine c_region ?_
     refine L_2 ?_
     refine RY (shl_pos rfl rfl y_c) rfl ?_
     refine RW (v := (.int .u8 (onV B (3 + 1)))) (l_or rfl rfl) rfl (congrArg (Value.int .u8) (or_on B (n := 3) y_c q7)) ?_
     refine ZAB ?_
     refine c_region ?_
     refine RW (v := (.int .i64 ((3 + 1 : Nat) : Int))) rfl rfl (congrArg _ (succ_law o_m)) ?_
     refine ZAB ?_
     exact ⟨3 + 1, y_D, y_D, .cons rfl (.cons rfl .nil), a_g, fun _ h => h.sub (.cons _ (List.Sublist.refl _))⟩
   ·refine c_skip ?_
    refine c_region ?_
    refine ZAL ?_
    exact ⟨i + 1, y_D, y_D, .cons (congrArg (Value.int .u8) (onV_no B q7)) (.cons rfl .nil), a_g, fun _ h => h.sub (.cons _ (List.Sublist.refl _))⟩
  ·refine c_exit rfl ?_
   refine ZAA ?_
   refine ZAE ?_
   refine c_ret ?_
   obtain rfl : i = 4 := by omega
   exact E0 rfl ⟨rfl, y_bQ⟩) : p := h
theorem ZAN {p : Prop} (h : p := by
 refine c_block ?_
 refine c_loop (σ := Nat) [5, 6, 7, 50, 51, 52, 53, 54, 55, 56, 57, 58, 59, 60] (fun i => [(5, .int .u8 (onV B i)), (50, .int .i64 i)]) (fun _ => [(b0, blk (cBd B) 131)]) (fun i => i ≤ 4) (fun i => 4 - i) 0 ?_ ?_ ?_ ?_
 ·exact Nat.zero_le _
 ·exact .cons y_cO (.cons rfl .nil)
 ·exact fun _ h => h
 ·rintro i y11 hi
  refine ZAA ?_
  refine ZAB ?_
  refine c_seq ?_
  refine KC (fun q5 q5n => ?_) (fun q5 q5n => ?_)
  ·refine c_skip ?_
   refine c_seq ?_
   refine c_block ?_
   refine ZAA ?_
   refine Rl ?_
   refine RY (light_idxVs (l := flat cVc B.vs) (c := cVc (B.v i)) i rfl rfl rfl rfl rfl rfl o_m (flat4_cut B.vs i y_dt)) rfl ?_
   refine RX (x_alloc rfl) rfl ?_
   rintro _ _ ⟨b1, rfl, rfl⟩
   refine Rl ?_
   refine RZ s_t rfl ?_
   refine l_nil ?_
   refine ZAA ?_
   refine RLa ?_
   refine RZ (x_load rfl rfl (at_own (v := .bool (B.v i).on) m_m rfl)) rfl ?_
   refine l_nil ?_
   refine KC (fun q6 q6n => ?_) (fun q6 q6n => ?_)
   ·rcases (show i = 0 ∨ i = 1 ∨ i = 2 ∨ i = 3 by omega) with rfl | rfl | rfl | rfl
    ·refine c_region ?_
     refine L_2 ?_
     refine RY (shl_pos rfl rfl y_c) rfl ?_
     refine RW (v := (.int .u8 (onV B (0 + 1)))) (l_or rfl rfl) rfl (congrArg (Value.int .u8) (or_on B (n := 0) y_c q6)) ?_
     refine ZAB ?_
     refine c_region ?_
     refine RW (v := (.int .i64 ((0 + 1 : Nat) : Int))) rfl rfl (congrArg _ (succ_law o_m)) ?_
     refine ZAB ?_
     exact ⟨0 + 1, y_D, y_D, .cons rfl (.cons rfl .nil), a_g, fun _ h => h.sub (.cons _ (List.Sublist.refl _))⟩
    ·refine c_region ?_
     refine L_2 ?_
     refine RY (shl_pos rfl rfl y_c) rfl ?_
     refine RW (v := (.int .u8 (onV B (1 + 1)))) (l_or rfl rfl) rfl (congrArg (Value.int .u8) (or_on B (n := 1) y_c q6)) ?_
     refine ZAB ?_
     refine c_region ?_
     refine RW (v := (.int .i64 ((1 + 1 : Nat) : Int))) rfl rfl (congrArg _ (succ_law o_m)) ?_
     refine ZAB ?_
     exact ⟨1 + 1, y_D, y_D, .cons rfl (.cons rfl .nil), a_g, fun _ h => h.sub (.cons _ (List.Sublist.refl _))⟩
    ·refine c_region ?_
     refine L_2 ?_
     refine RY (shl_pos rfl rfl y_c) rfl ?_
     refine RW (v := (.int .u8 (onV B (2 + 1)))) (l_or rfl rfl) rfl (congrArg (Value.int .u8) (or_on B (n := 2) y_c q6)) ?_
     refine ZAB ?_
     refine c_region ?_
     refine RW (v := (.int .i64 ((2 + 1 : Nat) : Int))) rfl rfl (congrArg _ (succ_law o_m)) ?_
     refine ZAB ?_
     exact ⟨2 + 1, y_D, y_D, .cons rfl (.cons rfl .nil), a_g, fun _ h => h.sub (.cons _ (List.Sublist.refl _))⟩
    ·refine c_region ?_
     refine L_2 ?_
     refine RY (shl_pos rfl rfl y_c) rfl ?_
     refine RW (v := (.int .u8 (onV B (3 + 1)))) (l_or rfl rfl) rfl (congrArg (Value.int .u8) (or_on B (n := 3) y_c q6)) ?_
     refine ZAB ?_
     refine c_region ?_
     refine RW (v := (.int .i64 ((3 + 1 : Nat) : Int))) rfl rfl (congrArg _ (succ_law o_m)) ?_
     refine ZAB ?_
     exact ⟨3 + 1, y_D, y_D, .cons rfl (.cons rfl .nil), a_g, fun _ h => h.sub (.cons _ (List.Sublist.refl _))⟩
   ·refine c_skip ?_
    refine c_region ?_
    refine ZAL ?_
    exact ⟨i + 1, y_D, y_D, .cons (congrArg (Value.int .u8) (onV_no B q6)) (.cons rfl .nil), a_g, fun _ h => h.sub (.cons _ (List.Sublist.refl _))⟩
  ·refine c_exit rfl ?_
   refine ZAA ?_
   refine ZAE ?_
   refine c_ret ?_
   obtain rfl : i = 4 := by omega
   exact E0 rfl ⟨rfl, y_bQ⟩) : p := h
theorem ZAO {p q : Prop} (k_ : q) (h : Wr q → p := by
 intro k_
 refine RZ s_t rfl ?_
 refine ZAb ?_
 exact k_.u) : p := h ⟨k_⟩
theorem ZAP {p q : Prop} (k_ : q) (h : Wr q → p := by
 intro k_
 refine c_region ?_
 exact k_.u) : p := h ⟨k_⟩
theorem ZAQ {p q : Prop} (k_ : q) (h : Wr q → p := by
 intro k_
 refine ZA0 ?_
 refine c_block ?_
 exact k_.u) : p := h ⟨k_⟩
theorem ZAR {p q : Prop} (k_ : q) (h : Wr q → p := by
 intro k_
 refine ZBQ ?_
 refine ZAb ?_
 exact k_.u) : p := h ⟨k_⟩
theorem ZAS {p q : Prop} (k_ : q) (h : Wr q → p := by
 intro k_
 refine ZAA ?_
 refine ZAE ?_
 exact k_.u) : p := h ⟨k_⟩
theorem ZAT {p q : Prop} (k_ : q) (h : Wr q → p := by
 intro k_
 refine ZAF ?_
 refine c_false rfl ?_
 exact k_.u) : p := h ⟨k_⟩
theorem ZAU {p q : Prop} (k_ : q) (h : Wr q → p := by
 intro k_
 refine ZAA ?_
 refine L_2 ?_
 exact k_.u) : p := h ⟨k_⟩
theorem ZAV {p q : Prop} (k_ : q) (h : Wr q → p := by
 intro k_
 refine ZAA ?_
 refine Rl ?_
 exact k_.u) : p := h ⟨k_⟩
theorem ZAW {p q : Prop} (k_ : q) (h : Wr q → p := by
 intro k_
 refine RZ (x_storeTo (l' := cHd ⟨[], (kindD (l.getD 327 0)), (ckD (l.getD 327 0)), true, ((2 * 2 ^ (l.getD 328 0).toNat : Nat) : Int), (ramH (kindD (l.getD 327 0)) (l.getD 329 0)), false⟩) 0 rfl rfl rfl rfl rfl rfl (Nat.le_of_ble_eq_true rfl) rfl) rfl ?_
 refine ZAC ?_
 exact k_.u) : p := h ⟨k_⟩
theorem ZAX {p q : Prop} (k_ : q) (h : Wr q → p := by
 intro k_
 refine ZCN ?_
 refine ZCT ?_
 exact k_.u) : p := h ⟨k_⟩
theorem ZAY {p q : Prop} (k_ : q) (h : Wr q → p := by
 intro k_
 refine ZAA ?_
 refine ZAI ?_
 exact k_.u) : p := h ⟨k_⟩
theorem ZAZ {p q : Prop} (k_ : q) (h : Wr q → p := by
 intro k_
 refine ZAP ?_
 refine Rl ?_
 exact k_.u) : p := h ⟨k_⟩
theorem ZAa {p q : Prop} (k_ : q) (h : Wr q → p := by
 intro k_
 refine ZAA ?_
 refine ZAB ?_
 exact k_.u) : p := h ⟨k_⟩
theorem ZAb {p q : Prop} (k_ : q) (h : Wr q → p := by
 intro k_
 refine l_nil ?_
 exact k_.u) : p := h ⟨k_⟩
theorem ZAd {p q : Prop} (k_ : q) (h : Wr q → p := by
 intro k_
 refine l_sure false rfl rfl rfl rfl ?_
 exact k_.u) : p := h ⟨k_⟩
theorem ZAe {p : Prop} (h : p := by
 refine ZAR ?_
 refine KC (fun q6 q6n => ?_) (fun q6 q6n => ?_)
 ·refine ZCx ?_
  refine RZ (x_loadA rfl rfl rfl (fun w hw => rowM_cp (m := m) (acc := acc) (row_own (b := A.mb) m_m w hw))) rfl ?_
  refine Rl ?_
  refine RLv call_322 (fun w hw => writeCp_fn m.cp x w) ?_
  refine L_3 ?_
  refine RZ (x_storeTo (l' := cMm A acc { m with cp := writeCp x }) 0 rfl rfl rfl rfl rfl rfl y_y (putM_cp _)) rfl ?_
  exact ZCj
 ·refine ZAA ?_
  refine ZAR ?_
  refine KC (fun q7 q7n => ?_) (fun q7 q7n => ?_)
  ·refine ZCx ?_
   refine RZ (x_storeTo (l' := cMm A acc { m with lets := x }) 0 rfl rfl rfl rfl rfl rfl y_y (putM_lets h.ln _)) rfl ?_
   exact ZCj
  ·refine ZAA ?_
   refine ZAR ?_
   refine KC (fun q8 q8n => ?_) (fun q8 q8n => ?_)
   ·refine ZAo ?_
    refine RW (l_sub rfl rfl) rfl y_r ?_
    refine L_3 ?_
    refine RY (idx_array1 (a - 65408).toNat rfl rfl rfl o_m o_m) rfl ?_
    refine RZ (x_storeTo (l' := cMm A acc { m with high := m.high.set (a - 65408).toNat x }) 0 rfl rfl rfl rfl rfl rfl y_bg (putM_high h.ln o_m _)) rfl ?_
    exact ZCj
   ·refine ZAx ?_
    exact EN (List.Sublist.refl _) ⟨rfl, y_m⟩) : p := h
theorem ZAf {p q : Prop} (k_ : q) (h : Wr q → p := by
 intro k_
 refine l_sure true rfl rfl rfl rfl ?_
 exact k_.u) : p := h ⟨k_⟩
theorem ZAh {p q : Prop} (k_ : q) (h : Wr q → p := by
 intro k_
 refine RZ (x_loadA rfl rfl y_w (row_own (b := b0) (l := cBd ((putB k x B).setV (k / 5) { ((putB k x B).v (k / 5)) with on := ((putB k x B).v (k / 5)).on && readyB (k / 5) (putB k x B) })) m_m)) rfl ?_
 refine RZ (x_storeTo (l' := cBd ((putB k x B).setV (k / 5) { ((putB k x B).v (k / 5)) with on := ((putB k x B).v (k / 5)).on && readyB (k / 5) (putB k x B) })) 0 rfl rfl rfl y_bW (ones_cBd _) rfl y_ce (putZ hWO)) rfl ?_
 exact k_.u) : p := h ⟨k_⟩
theorem ZAi {p q : Prop} (k_ : q) (h : Wr q → p := by
 intro k_
 refine RX (x_callF (A := (b0, blk [.int .u64 (FK.at Z.1 oi)] 47) :: (lb, blk [v0, .bool r] 169) :: G0) (G := [(pb, blk Z.1 T)]) (R := fun v H => v = .tuple #[] ∧ ∃ va' Gl', LineB 5 r va' (goes r 1 (FK.at Z.1 oi) Z.2).2 Gl' ∧ H = (b0, blk [.int .u64 (goes r 1 (FK.at Z.1 oi) Z.2).1] 47) :: (lb, blk [va', .bool r] 169) :: Gl') (((b0, blk [.int .u64 (FK.at Z.1 oi)] 47) :: (lb, blk [v0, .bool r] 169) :: G0).map (·.1)) call_141 rfl (fun _ hb => mem_fst hb) (fun w hw => number1L_fn r lb b0 1 y_c v0 (FK.at Z.1 oi) hx8 Z.2 G0 hV0 (fun L => ⟨hSz.byts, hSz.en, hSz.sz⟩) _ w (St.lentV hw))) rfl ?_
 rintro _ _ ⟨_, ⟨rfl, va0, G1, hV1, rfl⟩, rfl⟩
 revert va0 G1 hV1
 exact k_.u) : p := h ⟨k_⟩
theorem ZAj {p q : Prop} (k_ : q) (h : Wr q → p := by
 intro k_
 refine ZAb ?_
 refine ZDu ?_
 exact k_.u) : p := h ⟨k_⟩
theorem ZAk {p q : Prop} (k_ : q) (h : Wr q → p := by
 intro k_
 refine RX (x_box (l := [.int .i64 kind, .int .i64 banks, .int .i64 ram, .bool on, .bool mode, .int .i64 low, .int .i64 high, .int .u8 last]) rfl rfl) rfl ?_
 refine ZC8 fun b0 => ?_
 revert b0
 exact k_.u) : p := h ⟨k_⟩
theorem ZAl {p q : Prop} (k_ : q) (h : Wr q → p := by
 intro k_
 refine RZ (x_loadA rfl rfl rfl (row_own (b := b0) (l := cGm g) m_m)) rfl ?_
 refine RLv call_10 (fun w hw => few_fn g w) ?_
 exact k_.u) : p := h ⟨k_⟩
theorem ZAm {p q : Prop} (k_ : q) (h : Wr q → p := by
 intro k_
 refine RZ (x_loadA rfl rfl rfl y_h) rfl ?_
 exact k_.u) : p := h ⟨k_⟩
theorem ZAn {p q : Prop} (k_ : q) (h : Wr q → p := by
 intro k_
 refine RLa ?_
 refine RZ (x_storeTo (l' := cBd (((putB k x B).setV (k / 5) { ((putB k x B).v (k / 5)) with on := ((putB k x B).v (k / 5)).on && readyB (k / 5) (putB k x B) }))) 1 rfl rfl rfl rfl rfl rfl y_6 (putBd_v hPK (k := 0) (y := { ((putB k x B).v (k / 5)) with on := ((putB k x B).v (k / 5)).on && readyB (k / 5) (putB k x B) }) o_m y_c (by rfl))) rfl ?_
 exact k_.u) : p := h ⟨k_⟩
theorem ZAo {p q : Prop} (k_ : q) (h : Wr q → p := by
 intro k_
 refine ZAP ?_
 refine L_2 ?_
 exact k_.u) : p := h ⟨k_⟩
theorem ZAp {p q : Prop} (k_ : q) (h : Wr q → p := by
 intro k_
 refine ZAA ?_
 refine RZ (x_loadA rfl rfl rfl y_p) rfl ?_
 exact k_.u) : p := h ⟨k_⟩
theorem ZAq {p q : Prop} (k_ : q) (h : Wr q → p := by
 intro k_
 refine RX (x_alloc rfl) rfl ?_
 rintro _ _ ⟨b1, rfl, rfl⟩
 revert b1
 exact k_.u) : p := h ⟨k_⟩
theorem ZAr {p : Prop} (h : p := by
 refine ZAa ?_
 refine KC (fun q4 q4n => ?_) (fun q4 q4n => ?_)
 ·refine ZB2 ?_
  refine ZBd ?_
  refine ZAB ?_
  refine ZAG ?_
  refine ZB7 ?_
  refine ZB7 ?_
  refine ZAB ?_
  refine ZAK ?_
  refine ZA6 ?_
  exact ZBn
 ·refine ZAx ?_
  refine ZAG ?_
  refine ZB7 ?_
  refine ZB7 ?_
  refine ZAB ?_
  refine ZAK ?_
  refine ZA6 ?_
  exact ZBn) : p := h
theorem ZAs {p q : Prop} (k_ : q) (h : Wr q → p := by
 intro k_
 refine ZAE ?_
 refine c_ret ?_
 exact k_.u) : p := h ⟨k_⟩
theorem ZAt {p q : Prop} (k_ : q) (h : Wr q → p := by
 intro k_
 refine RX (x_box (l := cGm g) rfl rfl) rfl ?_
 refine ZC8 fun b0 => ?_
 revert b0
 exact k_.u) : p := h ⟨k_⟩
theorem ZAu {p : Prop} (h : p := by
 have e1 : heldB a x ⟨kind, banks, ram, on, mode, low, high, last⟩ = false := by unfold heldB; dsimp only; rw [Bool.eq_iff_iff]; simp only [decide_eq_true_eq, beq_iff_eq, Bool.false_eq_true, iff_false]; omega
 exact l_end0 (fun w hw => rets_cell2 rfl rfl rfl (row_own (b := b1) m_m w hw) rfl) ⟨rfl, y_X⟩) : p := h
theorem ZAv {p : Prop} (h : p := by
 refine ZAY ?_
 exact E0 rfl ⟨rfl, (congrArg (Value.int .i64) y_t)⟩) : p := h
theorem ZAw {p q : Prop} (k_ : q) (h : Wr q → p := by
 intro k_
 refine RW (l_conv rfl rfl rfl) rfl y_d ?_
 exact k_.u) : p := h ⟨k_⟩
theorem ZAx {p q : Prop} (k_ : q) (h : Wr q → p := by
 intro k_
 refine c_skip ?_
 exact k_.u) : p := h ⟨k_⟩
theorem ZAy {p q : Prop} (k_ : q) (h : Wr q → p := by
 intro k_
 refine Rl ?_
 refine RX (x_callMA (F := [(b0, blk (cCp (tickCp (cyc2 (cyc1 m)).cp)) 127)]) (A := [(A.mb, blk (cMm A acc (askM 1 (band .u8 (tickV (cyc4 (cyc3 (cyc2 (cyc1 m)))).u) 1 != 0) { (cyc4 (cyc3 (cyc2 (cyc1 m)))) with u := tickU (cyc4 (cyc3 (cyc2 (cyc1 m)))).u })) 137)]) (G := [(A.ub, blk (cU (tickU (cyc4 (cyc3 (cyc2 (cyc1 m)))).u)) 178)]) (R := fun v H => v = .tuple #[] ∧ H = [(A.mb, blk (cMm A acc (askM 2 (band .u8 (tickV (cyc4 (cyc3 (cyc2 (cyc1 m)))).u) 2 != 0) (askM 1 (band .u8 (tickV (cyc4 (cyc3 (cyc2 (cyc1 m)))).u) 1 != 0) { (cyc4 (cyc3 (cyc2 (cyc1 m)))) with u := tickU (cyc4 (cyc3 (cyc2 (cyc1 m)))).u }))) 137)]) call_50 rfl (fun w hw _ => ask_fnM A acc (askM 1 (band .u8 (tickV (cyc4 (cyc3 (cyc2 (cyc1 m)))).u) 1 != 0) { (cyc4 (cyc3 (cyc2 (cyc1 m)))) with u := tickU (cyc4 (cyc3 (cyc2 (cyc1 m)))).u }) hA5b 2 (band .u8 (tickV (cyc4 (cyc3 (cyc2 (cyc1 m)))).u) 2 != 0) w hw)) rfl ?_
 exact k_.u) : p := h ⟨k_⟩
theorem ZAz {p q : Prop} (k_ : q) (h : Wr q → p := by
 intro k_
 refine ZAG ?_
 refine ZAE ?_
 exact k_.u) : p := h ⟨k_⟩
theorem ZA0 {p q : Prop} (k_ : q) (h : Wr q → p := by
 intro k_
 refine c_seq ?_
 exact k_.u) : p := h ⟨k_⟩
theorem ZA1 {p q : Prop} (k_ : q) (h : Wr q → p := by
 intro k_
 refine ZAG ?_
 refine Rl ?_
 exact k_.u) : p := h ⟨k_⟩
theorem ZA2 {p : Prop} (h : p := by
 refine ZAR ?_
 refine KC (fun q6 q6n => ?_) (fun q6 q6n => ?_)
 ·refine ZDU ?_
  refine RZ (x_load rfl rfl (fun w hw => y_ef)) rfl ?_
  exact ZDD
 ·refine ZAA ?_
  refine ZAR ?_
  refine KC (fun q7 q7n => ?_) (fun q7 q7n => ?_)
  ·refine ZBl ?_
   refine RZ (x_load rfl rfl (at_old (hm _ _ (get_mid h.ln (j := 1) rfl)) y_z)) rfl ?_
   exact ZDD
  ·refine ZAA ?_
   refine ZAR ?_
   refine KC (fun q8 q8n => ?_) (fun q8 q8n => ?_)
   ·refine ZAU ?_
    refine RW (l_sub rfl rfl) rfl y_r ?_
    refine L_2 ?_
    refine RY (idx_array1 (a - 65408).toNat rfl rfl rfl o_m o_m) rfl ?_
    refine RZ (x_load rfl rfl (at_old y_bE y_z)) rfl ?_
    exact ZDD
   ·refine ZAx ?_
    refine ZAY ?_
    exact E0 rfl ⟨rfl, y_i⟩) : p := h
theorem ZA3 {p q : Prop} (k_ : q) (h : Wr q → p := by
 intro k_
 simp only [List.set_cons_zero, List.set_cons_succ]
 exact k_.u) : p := h ⟨k_⟩
theorem ZA4 {p q : Prop} (k_ : q) (h : Wr q → p := by
 intro k_
 refine ZAO ?_
 refine c_ret ?_
 exact k_.u) : p := h ⟨k_⟩
theorem ZA5 {p q : Prop} (k_ : q) (h : Wr q → p := by
 intro k_
 refine RX (x_callT (F := [(b0, _)]) (A := (rb, _) :: _) call_93 rfl (fun w hw => ridle_fn K rb 1 y_c x h G hG w (St.lentV hw))) rfl ?_
 refine ZB3 fun G0 hG0 => ?_
 revert G0 hG0
 exact k_.u) : p := h ⟨k_⟩
theorem ZA6 {p q : Prop} (k_ : q) (h : Wr q → p := by
 intro k_
 refine ZAA ?_
 refine L_3 ?_
 exact k_.u) : p := h ⟨k_⟩
theorem ZA7 {p q : Prop} (k_ : q) (h : Wr q → p := by
 intro k_
 refine RW (v := (.int .i64 s)) rfl rfl (as_i64 o_m o_m) ?_
 refine RW (v := (.int .i64 ((s % 150).toNat : Int))) (rem_pos rfl rfl y_c) rfl (congrArg _ ((Int.tmod_eq_emod_of_nonneg o_m).trans o_m)) ?_
 exact k_.u) : p := h ⟨k_⟩
theorem ZA8 {p : Prop} (h : p := by
 refine ZAa ?_
 refine KC (fun q0 q0n => ?_) (fun q0 q0n => ?_)
 ·refine ZAP ?_
  refine L_3 ?_
  refine RZ (x_load rfl rfl (at_own m_m (cU_own (hu.P_ (u.line.toNat * 160) (rowU_byts u) y_er)))) rfl ?_
  refine RW (v := (.int .i64 (u.own + 1))) rfl rfl (congrArg _ (wrap_i64 y_d8 y_d8)) ?_
  refine L_2 ?_
  refine RZ (x_storeTo (l' := cU { u with P := putI u.P (u.line.toNat * 160) (rowU u), own := u.own + 1 }) 3 rfl rfl rfl rfl rfl rfl y_bk (putU_own (hu.P_ (u.line.toNat * 160) (rowU_byts u) y_er) _)) rfl ?_
  refine ZAH ?_
  exact EN (.cons _ (.cons _ (.cons _ (List.Sublist.refl _)))) ⟨rfl, by rw [paint_yes q0]⟩
 ·refine ZAx ?_
  exact EN (.cons _ (.cons _ (.cons _ (List.Sublist.refl _)))) ⟨rfl, by rw [paint_no q0]⟩) : p := h
theorem ZA9 {p q : Prop} (k_ : q) (h : Wr q → p := by
 intro k_
 refine d_loadA rfl rfl rfl rfl (srow_own (b := b0) (l := cGm g) m_m) rfl rfl ?_
 exact k_.u) : p := h ⟨k_⟩
theorem ZBA {p q : Prop} (k_ : q) (h : Wr q → p := by
 intro k_
 iterate 5 refine Rl ?_
 refine ZAb ?_
 exact k_.u) : p := h ⟨k_⟩
theorem ZBB {p q : Prop} (k_ : q) (h : Wr q → p := by
 intro k_
 refine RW (l_or rfl rfl) rfl rfl ?_
 exact k_.u) : p := h ⟨k_⟩
theorem ZBC {p : Prop} (h : p := by
 refine ZAb ?_
 refine KC (fun q0 q0n => ?_) (fun q0 q0n => ?_)
 ·refine ZAY ?_
  exact EV rfl (List.Sublist.refl _) ⟨congrArg Value.bool (decide_eq_false q0n).symm, by rw [if_neg q0n]; rfl⟩
 ·refine ZAx ?_
  refine ZAU ?_
  refine ZAO ?_
  refine ZAY ?_
  exact EV rfl (List.Sublist.refl _) ⟨congrArg Value.bool (decide_eq_true q0n).symm, by rw [if_pos q0n]; rfl⟩) : p := h
theorem ZBD {p q : Prop} (k_ : q) (h : Wr q → p := by
 intro k_
 refine ZAP ?_
 refine RW (v := (.int .i64 ((n + 1 : Nat) : Int))) rfl rfl (congrArg _ (succ_law o_m)) ?_
 exact k_.u) : p := h ⟨k_⟩
theorem ZBE {p q : Prop} (k_ : q) (h : Wr q → p := by
 intro k_
 refine c_u ?_
 refine ZAb ?_
 exact k_.u) : p := h ⟨k_⟩
theorem ZBF {p : Prop} (h : p := by
 refine ZAL ?_
 exact ⟨(i + 1, va0, G1), ⟨y_D, y_bN⟩, y_D, .cons rfl .nil, a_g, fun _ h => (((h.sub (.cons_cons _ (.cons _ (List.Sublist.refl _)))).perm (List.perm_append_comm (l₁ := [(pb, _)]) (l₂ := (lb, _) :: G1)))).as y_b3⟩) : p := h
theorem ZBG {p : Prop} (h : p := by
 refine c_ret ?_
 exact l_end0 (fun _ _ => rets_v2 rfl rfl) ⟨rfl, _, rfl⟩) : p := h
theorem ZBI {p q : Prop} (k_ : q) (h : Wr q → p := by
 intro k_
 refine RX (x_box (l := [.int .u16 cnt, .int .u8 tima, .int .u8 tma, .int .u8 tac, .bool over]) rfl rfl) rfl ?_
 refine ZC8 fun b0 => ?_
 revert b0
 exact k_.u) : p := h ⟨k_⟩
theorem ZBJ {p q : Prop} (k_ : q) (h : Wr q → p := by
 intro k_
 refine Rl ?_
 refine RX (x_callMA (F := [(b0, blk (cCp (tickCp (cyc2 (cyc1 m)).cp)) 127)]) (A := [(A.mb, blk (cMm A acc { (cyc4 (cyc3 (cyc2 (cyc1 m)))) with u := tickU (cyc4 (cyc3 (cyc2 (cyc1 m)))).u }) 137)]) (G := [(A.ub, blk (cU (tickU (cyc4 (cyc3 (cyc2 (cyc1 m)))).u)) 178)]) (R := fun v H => v = .tuple #[] ∧ H = [(A.mb, blk (cMm A acc (askM 1 (band .u8 (tickV (cyc4 (cyc3 (cyc2 (cyc1 m)))).u) 1 != 0) { (cyc4 (cyc3 (cyc2 (cyc1 m)))) with u := tickU (cyc4 (cyc3 (cyc2 (cyc1 m)))).u })) 137)]) call_50 rfl (fun w hw _ => ask_fnM A acc { (cyc4 (cyc3 (cyc2 (cyc1 m)))) with u := tickU (cyc4 (cyc3 (cyc2 (cyc1 m)))).u } hA5 1 (band .u8 (tickV (cyc4 (cyc3 (cyc2 (cyc1 m)))).u) 1 != 0) w hw)) rfl ?_
 exact k_.u) : p := h ⟨k_⟩
theorem ZBK {p q : Prop} (k_ : q) (h : Wr q → p := by
 intro k_
 refine ZAY ?_
 have e7 : (if o.kind = 26 ∧ o.x ≠ 4 then idles K.toBusA 1 x else x) = x := if_neg o_m
 revert e7
 exact k_.u) : p := h ⟨k_⟩
theorem ZBL {p q : Prop} (k_ : q) (h : Wr q → p := by
 intro k_
 refine ZAb ?_
 refine ZAK ?_
 exact k_.u) : p := h ⟨k_⟩
theorem ZBM {p : Prop} (h : p := by
 refine ZAs ?_
 exact E0 rfl ⟨rfl, rfl⟩) : p := h
theorem ZBN {p q : Prop} (k_ : q) (h : Wr q → p := by
 intro k_
 refine l_sure false rfl rfl rfl (beq_eq_false_iff_ne.2 o_m) ?_
 exact k_.u) : p := h ⟨k_⟩
theorem ZBO {p q : Prop} (k_ : q) (h : Wr q → p := by
 intro k_
 refine ZAB ?_
 refine c_block ?_
 exact k_.u) : p := h ⟨k_⟩
theorem ZBP {p q : Prop} (k_ : q) (h : Wr q → p := by
 intro k_
 refine ZAU ?_
 refine RLv call_237 (fun w hw => zero_fn _ w) ?_
 exact k_.u) : p := h ⟨k_⟩
theorem ZBQ {p q : Prop} (k_ : q) (h : Wr q → p := by
 intro k_
 iterate 3 refine Rl ?_
 exact k_.u) : p := h ⟨k_⟩
theorem ZBR {p q : Prop} (k_ : q) (h : Wr q → p := by
 intro k_
 refine RZ s_t rfl ?_
 refine ZAI ?_
 exact k_.u) : p := h ⟨k_⟩
theorem ZBS {p : Prop} (h : p := by
 have e1 : latchB a x ⟨kind, banks, ram, on, mode, low, high, last⟩ = false := by unfold latchB; simp_all
 exact l_end0 (fun w hw => rets_cell2 rfl rfl rfl (row_own (b := b1) m_m w hw) rfl) ⟨rfl, y_W⟩) : p := h
theorem ZBT {p q : Prop} (k_ : q) (h : Wr q → p := by
 intro k_
 refine DX rfl (x_callT (F := [(b0, _)]) (A := (rb, _) :: _) call_197 rfl (fun w hw => rget_fn K rb x h G hG o.y w (St.lentV hw))) rfl y_E ?_
 refine ZB3 fun G0 hG0 => ?_
 revert G0 hG0
 exact k_.u) : p := h ⟨k_⟩
theorem ZBU {p : Prop} (h : p := by
 refine ZAI ?_
 exact E0 rfl ⟨rfl, rfl⟩) : p := h
theorem ZBV {p q : Prop} (k_ : q) (h : Wr q → p := by
 intro k_
 refine ZAz ?_
 refine c_block ?_
 exact k_.u) : p := h ⟨k_⟩
theorem ZBW {p : Prop} (h : p := by
 refine ZA4 ?_
 exact l_end0 (fun w hw => rets_cell rfl rfl rfl (row_own (b := b1) m_m w hw)) ⟨rfl, y_K⟩) : p := h
theorem ZBX {p q : Prop} (k_ : q) (h : Wr q → p := by
 intro k_
 refine ZAG ?_
 refine RLv call_9 (fun w hw => awake_fn w) ?_
 exact k_.u) : p := h ⟨k_⟩
theorem ZBY {p q : Prop} (k_ : q) (h : Wr q → p := by
 intro k_
 refine RX (x_box (l := [.int .u8 s, .int .u8 m, .int .u8 h, .int .i64 day, .int .i64 sub, .bool halt, .bool carry, .int .u8 d0, .int .u8 d1, .int .u8 d2, .int .u8 d3, .int .u8 d4]) rfl rfl) rfl ?_
 refine ZC8 fun b0 => ?_
 revert b0
 exact k_.u) : p := h ⟨k_⟩
theorem ZBZ {p q : Prop} (k_ : q) (h : Wr q → p := by
 intro k_
 refine RZ (x_load rfl rfl (at_own (v := .pointer (some ⟨A.ub, 0, none⟩)) m_m (get_mid (m := (cyc4 (cyc3 (cyc2 (cyc1 m))))) q3.ln (j := 14) rfl))) rfl ?_
 refine RX (x_callMA (F := [(b0, blk (cCp (tickCp (cyc2 (cyc1 m)).cp)) 127), (A.mb, blk (cMm A acc (cyc4 (cyc3 (cyc2 (cyc1 m))))) 137)]) (A := [(A.ub, blk (cU (cyc4 (cyc3 (cyc2 (cyc1 m)))).u) 178)]) (G := []) (R := fun v H => v = .int .u8 (tickV (cyc4 (cyc3 (cyc2 (cyc1 m)))).u) ∧ H = [(A.ub, blk (cU (tickU (cyc4 (cyc3 (cyc2 (cyc1 m)))).u)) 178)]) call_346 rfl (fun w hw _ => tick_fn A.ub (cyc4 (cyc3 (cyc2 (cyc1 m)))).u q3.u w hw)) rfl ?_
 exact k_.u) : p := h ⟨k_⟩
theorem ZBa {p q : Prop} (k_ : q) (h : Wr q → p := by
 intro k_
 refine c_exit rfl ?_
 exact k_.u) : p := h ⟨k_⟩
theorem ZBb {p q : Prop} (k_ : q) (h : Wr q → p := by
 intro k_
 refine ZAC ?_
 refine ZAb ?_
 exact k_.u) : p := h ⟨k_⟩
theorem ZBc {p q : Prop} (k_ : q) (h : Wr q → p := by
 intro k_
 refine RX (x_box (l := [.pointer (some ⟨A.mb, 0, none⟩)]) rfl rfl) rfl ?_
 refine ZC8 fun b0 => ?_
 revert b0
 exact k_.u) : p := h ⟨k_⟩
theorem ZBd {p q : Prop} (k_ : q) (h : Wr q → p := by
 intro k_
 refine RW (l_add rfl rfl) rfl y_d ?_
 exact k_.u) : p := h ⟨k_⟩
theorem ZBe {p q : Prop} (k_ : q) (h : Wr q → p := by
 intro k_
 refine ZEb ?_
 refine c_ret ?_
 exact k_.u) : p := h ⟨k_⟩
theorem ZBf {p q : Prop} (k_ : q) (h : Wr q → p := by
 intro k_
 simp only [List.set_cons_zero]
 refine RS ?_
 exact k_.u) : p := h ⟨k_⟩
theorem ZBg {p q : Prop} (k_ : q) (h : Wr q → p := by
 intro k_
 refine RX (x_callT (F := [(b0, _)]) (A := (rb, _) :: _) call_155 rfl (fun w hw => rbytes_fn K rb x (h.le o_m : RunOk K.toBusO (bn + 2) x) G hG o ho w (St.lentV hw))) rfl ?_
 refine ZB3 fun G0 hG0 => ?_
 revert G0 hG0
 exact k_.u) : p := h ⟨k_⟩
theorem ZBh {p q : Prop} (k_ : q) (h : Wr q → p := by
 intro k_
 refine ZA6 ?_
 refine RW (v := _) (rem_pos rfl rfl o_m) rfl (congrArg (Value.int .i64) (Int.tmod_eq_emod_of_nonneg o_m)) ?_
 exact k_.u) : p := h ⟨k_⟩
theorem ZBi {p q : Prop} (k_ : q) (h : Wr q → p := by
 intro k_
 refine RD ?_
 refine DX rfl (x_callMA (F := (b0, _) :: Ga) (A := [(A.mb, blk (cMm A va m) 137), (A.ub, blk (cU m.u) 178)]) (G := [(A.rb, blk (List.map (Value.int .u8) m.ram ++ A.rs) 5), (A.ob, blk (List.map (Value.int .u8) m.rom ++ A.sp) 5)]) (R := fun v H => v = .int .u8 (seenM a (cycleM m)) ∧ H = [(A.mb, blk (cMm A va (cycleM m)) 137), (A.ub, blk (cU (cycleM m).u) 178)]) call_340 rfl (fun w hw hw2 => seen_fn A va m h a ha w hw (Row.left (row_own (b := A.rb) m_m w hw2)) (Row.left (row_own (b := A.ob) m_m w hw2)) hd)) rfl y_ez ?_
 exact k_.u) : p := h ⟨k_⟩
theorem ZBj {p q : Prop} (k_ : q) (h : Wr q → p := by
 intro k_
 refine ZAP ?_
 refine L_4 ?_
 exact k_.u) : p := h ⟨k_⟩
theorem ZBk {p : Prop} (h : p := by
 refine ZA4 ?_
 exact l_end0 (fun w hw => rets_cell rfl rfl rfl (row_own (b := b1) m_m w hw)) ⟨rfl, y_R⟩) : p := h
theorem ZBl {p q : Prop} (k_ : q) (h : Wr q → p := by
 intro k_
 refine ZAA ?_
 refine L_4 ?_
 exact k_.u) : p := h ⟨k_⟩
theorem ZBm {p q : Prop} (k_ : q) (h : Wr q → p := by
 intro k_
 refine l_sure true rfl rfl rfl (beq_iff_eq.2 hk) ?_
 refine ZAB ?_
 refine ZDu ?_
 exact k_.u) : p := h ⟨k_⟩
theorem ZBn {p : Prop} (h : p := by
 refine RW (v := (.int .i64 (bankB a ⟨kind, banks, ram, on, mode, low, high, last⟩))) (rem_pos rfl rfl o_m) rfl (congrArg (Value.int .i64) y_f) ?_
 exact ZBU) : p := h
theorem ZBo {p q : Prop} (k_ : q) (h : Wr q → p := by
 intro k_
 refine ZAU ?_
 refine RX (x_callMA (F := (b0, _) :: Ga) (A := [(A.mb, blk (cMm A va m) 137), (A.ub, blk (cU m.u) 178)]) (G := [(A.rb, blk (List.map (Value.int .u8) m.ram ++ A.rs) 5), (A.ob, blk (List.map (Value.int .u8) m.rom ++ A.sp) 5)]) (R := fun v H => v = .tuple #[] ∧ H = [(A.mb, blk (cMm A va (cycleM m)) 137), (A.ub, blk (cU (cycleM m).u) 178)]) call_301 rfl (fun w hw hw2 => cycle_fn A va m h w hw (Row.left (row_own (b := A.rb) m_m w hw2)) (Row.left (row_own (b := A.ob) m_m w hw2)) hd)) rfl ?_
 exact k_.u) : p := h ⟨k_⟩
theorem ZBp {p q : Prop} (k_ : q) (h : Wr q → p := by
 intro k_
 refine RLa ?_
 refine ZAO ?_
 exact k_.u) : p := h ⟨k_⟩
theorem ZBq {p q : Prop} (k_ : q) (h : Wr q → p := by
 intro k_
 refine RX (x_alloc rfl) rfl ?_
 refine ZC8 fun b0 => ?_
 revert b0
 exact k_.u) : p := h ⟨k_⟩
theorem ZBr {p q : Prop} (k_ : q) (h : Wr q → p := by
 intro k_
 refine ZAS ?_
 refine c_ret ?_
 exact k_.u) : p := h ⟨k_⟩
theorem ZBs {p q : Prop} (k_ : q) (h : Wr q → p := by
 intro k_
 refine l_heap (H' := [(b, blk (cU (stepU u)) 178)]) (fun _ h => h.as y_cl) ?_
 refine RZ (x_callA call_305 rfl (fun w hw => ask_fn b (stepU u) hws w (St.lentA hw))) rfl ?_
 exact k_.u) : p := h ⟨k_⟩
theorem ZBt {p q : Prop} (k_ : q) (h : Wr q → p := by
 intro k_
 refine RZ (x_loadA rfl rfl y_bm (row_own (b := b0) (l := cBd B) m_m)) rfl ?_
 refine RZ (x_storeTo (l' := cBd B) 0 rfl rfl rfl y_bm (ones_cBd _) rfl y_ci (putZ hB)) rfl ?_
 exact k_.u) : p := h ⟨k_⟩
theorem ZBu {p q : Prop} (k_ : q) (h : Wr q → p := by
 intro k_
 refine ZAA ?_
 refine RZ (x_loadA rfl rfl rfl y_H) rfl ?_
 exact k_.u) : p := h ⟨k_⟩
theorem ZBv {p q : Prop} (k_ : q) (h : Wr q → p := by
 intro k_
 refine l_heap (fun w hw => hw.perm (List.perm_append_comm (l₁ := (b0, _) :: (lb, _) :: G1) (l₂ := [(pb, _)]))) ?_
 refine ZBb ?_
 exact k_.u) : p := h ⟨k_⟩
theorem ZBw {p q : Prop} (k_ : q) (h : Wr q → p := by
 intro k_
 simp only [List.nil_append, List.cons_append]
 exact k_.u) : p := h ⟨k_⟩
theorem ZBx {p q : Prop} (k_ : q) (h : Wr q → p := by
 intro k_
 refine RW (shr_pos rfl rfl y_c) rfl (as_shr 256 y_c y_c) ?_
 refine RW (v := (.int .u8 (x / 256))) (l_conv rfl rfl rfl) rfl (congrArg _ ((wrap_u8 _).trans o_m)) ?_
 exact k_.u) : p := h ⟨k_⟩
theorem ZBy {p q : Prop} (k_ : q) (h : Wr q → p := by
 intro k_
 have hVc : Vec 101 3 va (cycleM m).acc.length (flat cAc (cycleM m).acc) Ga := by rw [cycleM_acc]; exact hV
 have hrc : (cycleM m).acc.length + 1 ≤ 1000000 := by rw [cycleM_acc]; omega
 revert hVc hrc
 exact k_.u) : p := h ⟨k_⟩
theorem ZBz {p q : Prop} (k_ : q) (h : Wr q → p := by
 intro k_
 refine ZAo ?_
 refine RLv call_122 (fun w hw => place_fn b _ ha w) ?_
 exact k_.u) : p := h ⟨k_⟩
theorem ZB0 {p q : Prop} (k_ : q) (h : Wr q → p := by
 intro k_
 refine ZAG ?_
 refine ZAT ?_
 exact k_.u) : p := h ⟨k_⟩
theorem ZB1 {p q : Prop} (k_ : q) (h : Wr q → p := by
 intro k_
 refine RY (idx_slice1 (n := romS b) (329) rfl rfl rfl rfl o_m) rfl ?_
 refine RZ (x_storeTo (l' := (((((madeP (List.replicate (romS b) 0) prog (min prog.length 15000)).set 327 kind).set 328 (b % 9))).set (329) (ram)).map (Value.int .u8)) 0 rfl rfl rfl rfl rfl rfl (len_byte (n := romS b) y_O o_m) (put_byte (l := (((madeP (List.replicate (romS b) 0) prog (min prog.length 15000)).set 327 kind).set 328 (b % 9))) (n := romS b) ram y_O y_G y_G)) rfl ?_
 exact k_.u) : p := h ⟨k_⟩
theorem ZB2 {p q : Prop} (k_ : q) (h : Wr q → p := by
 intro k_
 refine ZAP ?_
 refine L_3 ?_
 exact k_.u) : p := h ⟨k_⟩
theorem ZB3 {p q : Prop} (k_ : q) (h : Wr q → p := by
 intro k_
 rintro _ _ ⟨_, ⟨rfl, G0, rfl, hG0⟩, rfl⟩
 revert G0 hG0
 exact k_.u) : p := h ⟨k_⟩
theorem ZB4 {p q : Prop} (k_ : q) (h : Wr q → p := by
 intro k_
 refine ZAA ?_
 refine ZAR ?_
 exact k_.u) : p := h ⟨k_⟩
theorem ZB5 {p q : Prop} (k_ : q) (h : Wr q → p := by
 intro k_
 refine DR [4, 5, 6, 7, 8, 9, 10, 11, 12] (pln [0, 2, 4, 6, 8, 10, 12, 14, 16, 18, 20, 22, 24, 27]) ?_
 refine D_13 ?_
 exact k_.u) : p := h ⟨k_⟩
theorem ZB6 {p : Prop} (h : p := by
 refine KL (fun q3 q3n => ?_) (fun q3 q3n => ?_)
 ·refine ZBQ ?_
  refine KL (fun q4 q4n => ?_) (fun q4 q4n => ?_)
  ·refine ZBA ?_
   exact ZDN
  ·refine L_5 ?_
   refine ZAb ?_
   exact ZDN
 ·refine L_9 ?_
  refine ZAb ?_
  exact ZDN) : p := h
theorem ZB7 {p q : Prop} (k_ : q) (h : Wr q → p := by
 intro k_
 refine L_2 ?_
 refine l_sure false rfl rfl rfl (decide_eq_false o_m) ?_
 exact k_.u) : p := h ⟨k_⟩
theorem ZB8 {p q : Prop} (k_ : q) (h : Wr q → p := by
 intro k_
 refine RS ?_
 refine RZ (x_storeTo (l' := cHd zHd) 1 rfl rfl rfl rfl rfl rfl (Nat.le_of_ble_eq_true rfl) rfl) rfl ?_
 exact k_.u) : p := h ⟨k_⟩
theorem ZB9 {p q : Prop} (k_ : q) (h : Wr q → p := by
 intro k_
 refine RS ?_
 refine RZ (x_storeTo (l' := cHd zHd) 2 rfl rfl rfl rfl rfl rfl (Nat.le_of_ble_eq_true rfl) rfl) rfl ?_
 exact k_.u) : p := h ⟨k_⟩
theorem ZCA {p q : Prop} (k_ : q) (h : Wr q → p := by
 intro k_
 refine Rl ?_
 refine l_sure false rfl rfl rfl y_bx ?_
 exact k_.u) : p := h ⟨k_⟩
theorem ZCB {p q : Prop} (k_ : q) (h : Wr q → p := by
 intro k_
 refine ZAP ?_
 refine ZAE ?_
 exact k_.u) : p := h ⟨k_⟩
theorem ZCC {p : Prop} (h : p := by
 refine ZA4 ?_
 exact l_end0 (fun w hw => rets_cell rfl rfl rfl (row_own (b := b2) m_m w hw)) ⟨rfl, y_Z⟩) : p := h
theorem ZCD {p q : Prop} (k_ : q) (h : Wr q → p := by
 intro k_
 refine RX (x_box (l := [.int .u8 data, .int .u8 control, .int .u8 last, .int .i64 bits, .int .i64 count, .int .i64 sent]) rfl rfl) rfl ?_
 refine ZC8 fun b0 => ?_
 revert b0
 exact k_.u) : p := h ⟨k_⟩
theorem ZCE {p q : Prop} (k_ : q) (h : Wr q → p := by
 intro k_
 iterate 4 refine Rl ?_
 refine ZAb ?_
 exact k_.u) : p := h ⟨k_⟩
theorem ZCF {p q : Prop} (k_ : q) (h : Wr q → p := by
 intro k_
 refine D_3 ?_
 refine DW (v := (.slice (some ⟨b, 0, none⟩) u.V.length 8192)) rfl (cut_array1 0 8192 rfl rfl rfl rfl rfl rfl y_c y_c) rfl y_dG ?_
 exact k_.u) : p := h ⟨k_⟩
theorem ZCG {p q : Prop} (k_ : q) (h : Wr q → p := by
 intro k_
 refine RY (idx_slice1 (n := romS b) (328) rfl rfl rfl rfl o_m) rfl ?_
 refine RZ (x_storeTo (l' := ((((madeP (List.replicate (romS b) 0) prog (min prog.length 15000)).set 327 kind)).set (328) ((b % 9))).map (Value.int .u8)) 0 rfl rfl rfl rfl rfl rfl (len_byte (n := romS b) y_O o_m) (put_byte (l := ((madeP (List.replicate (romS b) 0) prog (min prog.length 15000)).set 327 kind)) (n := romS b) (b % 9) y_O y_G y_G)) rfl ?_
 exact k_.u) : p := h ⟨k_⟩
theorem ZCH {p q : Prop} (k_ : q) (h : Wr q → p := by
 intro k_
 refine RZ (x_loadA rfl rfl rfl (fun w hw => rowM_bk (m := m) (acc := acc) (row_own (b := A.mb) m_m w hw))) rfl ?_
 exact k_.u) : p := h ⟨k_⟩
theorem ZCI {p q : Prop} (k_ : q) (h : Wr q → p := by
 intro k_
 refine ZAa ?_
 refine ZA0 ?_
 exact k_.u) : p := h ⟨k_⟩
theorem ZCJ {p q : Prop} (k_ : q) (h : Wr q → p := by
 intro k_
 refine DW rfl (l_conv rfl rfl rfl) rfl y_o ?_
 exact k_.u) : p := h ⟨k_⟩
theorem ZCK {p q : Prop} (k_ : q) (h : Wr q → p := by
 intro k_
 refine c_u ?_
 refine DZ rfl (x_storeTo (l' := cDd ⟨1, 0, r.pc, (nextT K.toBusA (⟨(⟨r, ime, false, false, false⟩ : CS), m⟩ : Rn _)).1, (ordT K.toBusA (nextT K.toBusA (⟨(⟨r, ime, false, false, false⟩ : CS), m⟩ : Rn _)).1 r.pc (nextT K.toBusA (⟨(⟨r, ime, false, false, false⟩ : CS), m⟩ : Rn _)).2).1⟩) 1 rfl rfl rfl rfl rfl rfl (Nat.le_of_ble_eq_true rfl) rfl) rfl y_dQ ?_
 exact k_.u) : p := h ⟨k_⟩
theorem ZCL {p : Prop} (h : p := by
 refine ZAb ?_
 exact ⟨0, trivial, .nil, a_g, fun _ h => h.as y_C⟩) : p := h
theorem ZCM {p q : Prop} (k_ : q) (h : Wr q → p := by
 intro k_
 refine ZAA ?_
 refine RZ (x_loadA rfl rfl rfl (row_own (b := b0) (l := cGm g) m_m)) rfl ?_
 exact k_.u) : p := h ⟨k_⟩
theorem ZCN {p q : Prop} (k_ : q) (h : Wr q → p := by
 intro k_
 rintro _ _ ⟨_, ⟨rfl, rfl⟩, rfl⟩
 exact k_.u) : p := h ⟨k_⟩
theorem ZCO {p q : Prop} (k_ : q) (h : Wr q → p := by
 intro k_
 refine DZ rfl (x_storeTo (l' := cHd ⟨(nameH ((l.drop 308).take 15)), ((sortH (l.getD 327 0)).getD (0, false, false)).1, ((sortH (l.getD 327 0)).getD (0, false, false)).2.1, ((sortH (l.getD 327 0)).getD (0, false, false)).2.2, 2 * 2 ^ (l.getD 328 0).toNat, (sizesH.getD (l.getD 329 0).toNat 0), false⟩) 0 rfl rfl rfl rfl rfl rfl (Nat.le_of_ble_eq_true rfl) rfl) rfl n_h ?_
 refine ZAC ?_
 exact k_.u) : p := h ⟨k_⟩
theorem ZCP {p q : Prop} (k_ : q) (h : Wr q → p := by
 intro k_
 refine RY (idx_slice1 (n := romS b) (327) rfl rfl rfl rfl o_m) rfl ?_
 refine RZ (x_storeTo (l' := (((madeP (List.replicate (romS b) 0) prog (min prog.length 15000))).set (327) (kind)).map (Value.int .u8)) 0 rfl rfl rfl rfl rfl rfl (len_byte (n := romS b) y_O o_m) (put_byte (l := (madeP (List.replicate (romS b) 0) prog (min prog.length 15000))) (n := romS b) kind y_O y_G y_G)) rfl ?_
 exact k_.u) : p := h ⟨k_⟩
theorem ZCQ {p q : Prop} (k_ : q) (h : Wr q → p := by
 intro k_
 refine ZAx ?_
 refine ZAQ ?_
 exact k_.u) : p := h ⟨k_⟩
theorem ZCR {p q : Prop} (k_ : q) (h : Wr q → p := by
 intro k_
 refine Rl ?_
 refine RW (shl_pos rfl rfl y_c) rfl y_dT ?_
 exact k_.u) : p := h ⟨k_⟩
theorem ZCS {p q : Prop} (k_ : q) (h : Wr q → p := by
 intro k_
 refine RX (x_callT (F := [(b0, _)]) (A := (rb, _) :: _) call_156 rfl (fun w hw => rwords_fn K rb x (h.le o_m : RunOk K.toBusO (bn + 3) x) G0 hG0 o ho w (St.lentV hw))) rfl ?_
 refine ZCy fun G1 hG1 => ?_
 revert G1 hG1
 exact k_.u) : p := h ⟨k_⟩
theorem ZCT {p q : Prop} (k_ : q) (h : Wr q → p := by
 intro k_
 simp only [List.cons_append, List.nil_append]
 exact k_.u) : p := h ⟨k_⟩
theorem ZCU {p q : Prop} (k_ : q) (h : Wr q → p := by
 intro k_
 refine RY l_n rfl ?_
 exact k_.u) : p := h ⟨k_⟩
theorem ZCV {p q : Prop} (k_ : q) (h : Wr q → p := by
 intro k_
 refine RW (l_sub rfl rfl) rfl y_d ?_
 exact k_.u) : p := h ⟨k_⟩
theorem ZCW {p q : Prop} (k_ : q) (h : Wr q → p := by
 intro k_
 refine ZAZ ?_
 refine RX (x_callT (F := []) (A := (b0, blk [ad6, v0] 257) :: G0) (R := fun v H => v = .nilIface ∧ ∃ va' G', Vec 5 1 va' (i + 1) (txV ((l.take i).map chrH) ++ [.int .u8 63]) G' ∧ H = (b0, blk [(.pointer (some ⟨b0, 0, none⟩)), va'] 257) :: G') call_149 rfl (fun w hw => bwrite_fn b0 ad6 v0 hA6 i o_m _ G0 hV0 63 _ w (St.lentV (G := []) hw))) rfl ?_
 exact k_.u) : p := h ⟨k_⟩
theorem ZCX {p q : Prop} (k_ : q) (h : Wr q → p := by
 intro k_
 refine d_mv rfl (vnf_eq rfl) rfl rfl ?_
 exact k_.u) : p := h ⟨k_⟩
theorem ZCZ {p q : Prop} (k_ : q) (h : Wr q → p := by
 intro k_
 refine ZBK fun e7 => ?_
 have e8 : metJ o x = true := by unfold metJ; rw [(decide_eq_false o_m : decide (23 ≤ o.kind ∧ o.kind ≤ 26) = false)]; rfl
 revert e7 e8
 exact k_.u) : p := h ⟨k_⟩
theorem ZCa {p q : Prop} (k_ : q) (h : Wr q → p := by
 intro k_
 refine ZAA ?_
 refine RZ (x_loadA rfl rfl rfl y_U) rfl ?_
 exact k_.u) : p := h ⟨k_⟩
theorem ZCb {p q : Prop} (k_ : q) (h : Wr q → p := by
 intro k_
 refine D_3 ?_
 refine DW rfl (l_conv rfl rfl rfl) rfl y_r ?_
 exact k_.u) : p := h ⟨k_⟩
theorem ZCc {p q : Prop} (k_ : q) (h : Wr q → p := by
 intro k_
 refine ZA0 ?_
 refine ZA0 ?_
 exact k_.u) : p := h ⟨k_⟩
theorem ZCd {p q : Prop} (k_ : q) (h : Wr q → p := by
 intro k_
 refine ZAG ?_
 refine L_2 ?_
 exact k_.u) : p := h ⟨k_⟩
theorem ZCe {p q : Prop} (k_ : q) (h : Wr q → p := by
 intro k_
 refine DZ rfl (x_val call_357 rfl (fun w hw => line_fn (u.r 0) (u.r 7) (u.r 8) (u.r 9) (hu.look 0) (hu.look 7) (hu.look 8) (hu.look 9) _ _ _ _ u.V u.O hu.bV hu.bO (by rw [hu.lO]; decide) u.line (belowU u) (tLine_len _ _ _ _) (tLine_byts _ _ _ _) w (Ns.of (rowV (row_own m_m w hw))) (Ns.of (rowO hu (row_own m_m w hw))))) rfl y_b ?_
 rw [rowU_vals]
 exact k_.u) : p := h ⟨k_⟩
theorem ZCf {p : Prop} (h : p := by
 refine ZAs ?_
 exact l_end0 (fun _ _ => rets_v2 rfl rfl) ⟨rfl, y_e⟩) : p := h
theorem ZCg {p q : Prop} (k_ : q) (h : Wr q → p := by
 intro k_
 refine ZAQ ?_
 refine ZAQ ?_
 exact k_.u) : p := h ⟨k_⟩
theorem ZCh {p q : Prop} (k_ : q) (h : Wr q → p := by
 intro k_
 refine ZAF ?_
 refine ZAK ?_
 exact k_.u) : p := h ⟨k_⟩
theorem ZCi {p q : Prop} (k_ : q) (h : Wr q → p := by
 intro k_
 refine RLa ?_
 refine RZ (x_loadA rfl rfl y_c3 (fun w hw => row_vs hB (row_own (b := b0) (l := cBd B) m_m w hw))) rfl ?_
 exact k_.u) : p := h ⟨k_⟩
theorem ZCj {p : Prop} (h : p := by
 refine ZAH ?_
 exact EN (List.Sublist.refl _) ⟨rfl, y_m⟩) : p := h
theorem ZCk {p q : Prop} (k_ : q) (h : Wr q → p := by
 intro k_
 refine RW (l_and rfl rfl) rfl y_dO ?_
 exact k_.u) : p := h ⟨k_⟩
theorem ZCl {p : Prop} (h : p := by
 refine ZA4 ?_
 exact l_end0 (fun w hw => rets_cell rfl rfl rfl (row_own (b := b1) m_m w hw)) ⟨rfl, y_bf⟩) : p := h
theorem ZCm {p : Prop} (h : p := by
 refine ZA4 ?_
 exact l_end0 (fun w hw => rets_cell rfl rfl rfl (row_own (b := b1) m_m w hw)) ⟨rfl, rfl⟩) : p := h
theorem ZCn {p q : Prop} (k_ : q) (h : Wr q → p := by
 intro k_
 refine DL rfl rfl rfl (s_old (hra _ _ (map_at (j := 334) o_m)) y_z) rfl ?_
 refine DW (v := (.int .u16 (l.getD 334 0))) rfl (l_conv rfl rfl rfl) rfl (as_u16 hb4.1 o_m) ?_
 exact k_.u) : p := h ⟨k_⟩
theorem ZCo {p q : Prop} (k_ : q) (h : Wr q → p := by
 intro k_
 refine DL rfl rfl rfl (s_old (hra _ _ (map_at (j := 335) o_m)) y_z) rfl ?_
 refine DW (v := (.int .u16 (l.getD 335 0))) rfl (l_conv rfl rfl rfl) rfl (as_u16 hb5.1 o_m) ?_
 exact k_.u) : p := h ⟨k_⟩
theorem ZCp {p q : Prop} (k_ : q) (h : Wr q → p := by
 intro k_
 refine RY (idx_array (s := 4) (k / 5) rfl rfl rfl o_m o_m) rfl ?_
 exact k_.u) : p := h ⟨k_⟩
theorem ZCq {p q : Prop} (k_ : q) (h : Wr q → p := by
 intro k_
 refine ZAP ?_
 refine RY (idx_slice1 i rfl rfl rfl rfl o_m) rfl ?_
 exact k_.u) : p := h ⟨k_⟩
theorem ZCr {p q : Prop} (k_ : q) (h : Wr q → p := by
 intro k_
 refine DR [7, 8, 9, 10, 11] (pln [0, 2, 4, 6, 8, 10, 12, 14, 16, 18, 20, 22, 24, 26, 28, 30, 32]) ?_
 refine D_2 ?_
 exact k_.u) : p := h ⟨k_⟩
theorem ZCs {p q : Prop} (k_ : q) (h : Wr q → p := by
 intro k_
 refine RW (l_add rfl rfl) rfl y_o ?_
 exact k_.u) : p := h ⟨k_⟩
theorem ZCt {p q : Prop} (k_ : q) (h : Wr q → p := by
 intro k_
 refine RW (l_mul rfl rfl) rfl y_d ?_
 exact k_.u) : p := h ⟨k_⟩
theorem ZCu {p : Prop} (h : p := by
 refine ZAY ?_
 exact E0 rfl ⟨rfl, rfl⟩) : p := h
theorem ZCv {p q : Prop} (k_ : q) (h : Wr q → p := by
 intro k_
 refine RZ (x_storeTo (l' := cHd zHd) 0 rfl rfl rfl rfl rfl rfl (Nat.le_of_ble_eq_true rfl) rfl) rfl ?_
 refine ZAC ?_
 exact k_.u) : p := h ⟨k_⟩
theorem ZCw {p q : Prop} (k_ : q) (h : Wr q → p := by
 intro k_
 refine D_3 ?_
 refine DW (v := (.slice (some ⟨b, 8192, none⟩) u.O.length 160)) rfl (cut_array1 0 160 rfl rfl rfl rfl rfl rfl y_c y_c) rfl (by rw [hu.lO]; rfl) ?_
 exact k_.u) : p := h ⟨k_⟩
theorem ZCx {p q : Prop} (k_ : q) (h : Wr q → p := by
 intro k_
 refine ZAP ?_
 refine L_5 ?_
 exact k_.u) : p := h ⟨k_⟩
theorem ZCy {p q : Prop} (k_ : q) (h : Wr q → p := by
 intro k_
 rintro _ _ ⟨_, ⟨rfl, G1, rfl, hG1⟩, rfl⟩
 revert G1 hG1
 exact k_.u) : p := h ⟨k_⟩
theorem ZCz {p q : Prop} (k_ : q) (h : Wr q → p := by
 intro k_
 refine D_2 ?_
 refine ZEb ?_
 exact k_.u) : p := h ⟨k_⟩
theorem ZC0 {p q : Prop} (k_ : q) (h : Wr q → p := by
 intro k_
 refine ZAH ?_
 refine c_ret ?_
 exact k_.u) : p := h ⟨k_⟩
theorem ZC1 {p q : Prop} (k_ : q) (h : Wr q → p := by
 intro k_
 refine RZ (x_storeTo (l' := (((madeP (List.replicate (romS b) 0) prog i)).set (madeAt i) ((prog.getD i 0))).map (Value.int .u8)) 0 rfl rfl rfl rfl rfl rfl (len_byte (n := romS b) y_O o_m) (put_byte (l := (madeP (List.replicate (romS b) 0) prog i)) (n := romS b) (prog.getD i 0) y_O y_G y_G)) rfl ?_
 refine ZBb ?_
 exact k_.u) : p := h ⟨k_⟩
theorem ZC2 {p q : Prop} (k_ : q) (h : Wr q → p := by
 intro k_
 refine ZAP ?_
 refine ZAL ?_
 exact k_.u) : p := h ⟨k_⟩
theorem ZC3 {p : Prop} (h : p := by
 have e9 : effJ K.toBusA o x = goto o.n (push K.toBusA x.s.r.pc (idles K.toBusA 1 x)) := by unfold effJ; rw [e7, e8]; simp only [Bool.true_eq_false, if_false]; simp only [hk]; rfl
 exact EV rfl (.cons _ (List.Sublist.refl _)) ⟨congrArg Value.bool e8.symm, G1, y_s, y_8⟩) : p := h
theorem ZC4 {p : Prop} (h : p := by
 have e9 : errH l = 0 := by unfold errH; rw [if_neg o_m, if_neg y_bb]; rw [hs0]; dsimp only; rw [if_neg o_m, if_neg (by simpa using q5)]
 exact l_end0 (fun w hw => rets_cell2 rfl rfl rfl (row_own (b := b0) (l := cHd (hdH l)) m_m w hw) rfl) ⟨rfl, by rw [e9, if_pos rfl]⟩) : p := h
theorem ZC5 {p q : Prop} (k_ : q) (h : Wr q → p := by
 intro k_
 refine RW (v := (.int .i64 ((65536 - z : Nat) : Int))) rfl rfl (congrArg _ ((wrap_i64 o_m o_m).trans o_m)) ?_
 refine RW (v := (.slice (some ⟨b1, 0, none⟩) ((flipL (romG g) (308 + (a % 26).toNat) x).take (65536 - z)).length (romG g).length)) (cut_pre (65536 - z) rfl rfl rfl rfl o_m) rfl (by rw [hlb]) ?_
 exact k_.u) : p := h ⟨k_⟩
theorem ZC6 {p q : Prop} (k_ : q) (h : Wr q → p := by
 intro k_
 refine DW (v := (.int .u16 (a % 16384))) rfl (rem_pos rfl rfl y_c) rfl (as_rem o_m) ?_
 exact k_.u) : p := h ⟨k_⟩
theorem ZC7 {p q : Prop} (k_ : q) (h : Wr q → p := by
 intro k_
 have hWL : ((putB k x B).setV (k / 5) { ((putB k x B).v (k / 5)) with len := longest (k / 5) - x % longest (k / 5) }).Wf := hPK.setV _ ⟨y_d8, hv9.lev, hv9.wait⟩
 have hWO : ((putB k x B).setV (k / 5) { ((putB k x B).v (k / 5)) with on := ((putB k x B).v (k / 5)).on && readyB (k / 5) (putB k x B) }).Wf := hPK.setV _ ⟨hv9.len, hv9.lev, hv9.wait⟩
 revert hWL hWO
 exact k_.u) : p := h ⟨k_⟩
theorem ZC8 {p q : Prop} (k_ : q) (h : Wr q → p := by
 intro k_
 rintro _ _ ⟨b0, rfl, rfl⟩
 revert b0
 exact k_.u) : p := h ⟨k_⟩
theorem ZC9 {p q : Prop} (k_ : q) (h : Wr q → p := by
 intro k_
 refine RD ?_
 refine ZEb ?_
 exact k_.u) : p := h ⟨k_⟩
theorem ZDA {p q : Prop} (k_ : q) (h : Wr q → p := by
 intro k_
 refine c_draw [(b0, blk (cO o) 50)] [3, 4, 5, 6, 7, 8, 9, 10] (.step true 0 (.step true 1 (.step true 2 (.step true 3 (.step true 4 (.step true 5 (.step true 7 (.step true 8 (.step true 9 (.step false 6 (.step true 10 (.step false 11 .done)))))))))))) rfl y_g y_g (fun x hx => y_5) ?_
 refine D_8 ?_
 exact k_.u) : p := h ⟨k_⟩
theorem ZDB {p q : Prop} (k_ : q) (h : Wr q → p := by
 intro k_
 refine ZAP ?_
 refine RX (x_callT (F := []) (A := (b0, blk [ad6, v0] 257) :: G0) (R := fun v H => H = [] ∧ v = .string (bs ((l.take i).map chrH))) call_150 rfl (fun w hw => bstring_fn b0 ad6 v0 ((l.take i).map chrH) o_m G0 (hV0.as hTi.symm rfl) (fun h => q0 o_m) _ w (St.lentV (G := []) hw))) rfl ?_
 exact k_.u) : p := h ⟨k_⟩
theorem ZDC {p q : Prop} (k_ : q) (h : Wr q → p := by
 intro k_
 refine DZ rfl (x_val call_89 rfl (fun w hw => name_fn ba (oa + 308) (c - 308) ((l.drop 308).take 15) o_m (fun x hx => hb x (List.mem_of_mem_drop (List.mem_of_mem_take hx))) w (Row.takeK (Row.dropK (row_old hra y_z w hw) 308) 15))) rfl y_b ?_
 refine ZEL ?_
 exact k_.u) : p := h ⟨k_⟩
theorem ZDD {p : Prop} (h : p := by
 refine ZAI ?_
 exact E0 rfl ⟨rfl, y_i⟩) : p := h
theorem ZDE {p q : Prop} (k_ : q) (h : Wr q → p := by
 intro k_
 refine ZAZ ?_
 refine RX (x_callT (F := [(b1, blk (cBd bdZ) 131)]) (A := [(b0, blk (cBd (putB k x B)) 131)]) (R := fun v H => v = .tuple #[] ∧ H = [(b0, blk (cBd (beginB (k / 5) (putB k x B))) 131)]) call_326 rfl (fun w hw => beginB_fn b0 (putB k x B) hPK (k / 5) o_m w (St.lentV hw))) rfl ?_
 exact k_.u) : p := h ⟨k_⟩
theorem ZDF {p q : Prop} (k_ : q) (h : Wr q → p := by
 intro k_
 refine RZ (x_loadA rfl rfl rfl (fun w hw => rowM_bk (row_old hm y_z w hw))) rfl ?_
 exact k_.u) : p := h ⟨k_⟩
theorem ZDG {p q : Prop} (k_ : q) (h : Wr q → p := by
 intro k_
 refine ZB5 ?_
 refine DX rfl (x_callIT (F := [(b0, _), (rb, _)]) (A := G) rfl K.mW K.cW rfl (fun w hw => K.dW h.m hG (St.lentV hw) o_m h.r.a)) rfl n_h ?_
 exact k_.u) : p := h ⟨k_⟩
theorem ZDH {p : Prop} (h : p := by
 have e9 : errH l = 7 := by unfold errH; rw [if_neg o_m, if_neg y_bb, sort_kind (hb.get 327)]; rw [if_neg o_m]; dsimp only; rw [if_pos o_m]
 exact l_end0 (fun w hw => rets_cell2 rfl rfl rfl (row_own (b := b0) (l := cHd zHd) m_m w hw) rfl) ⟨rfl, y_ed⟩) : p := h
theorem ZDI {p q : Prop} (k_ : q) (h : Wr q → p := by
 intro k_
 refine Rl ?_
 refine RLv call_238 (fun w hw => flagA_fn 32 _ w) ?_
 exact k_.u) : p := h ⟨k_⟩
theorem ZDJ {p q : Prop} (k_ : q) (h : Wr q → p := by
 intro k_
 refine ZB0 ?_
 refine ZAP ?_
 exact k_.u) : p := h ⟨k_⟩
theorem ZDK {p q : Prop} (k_ : q) (h : Wr q → p := by
 intro k_
 refine ZAZ ?_
 refine RZ (x_callA call_355 rfl (fun w hw => next_fn b (oneU u) (hu.one hd) w (St.lentA hw) (show u.line < 154 by (try simp only [decide_eq_true_eq, decide_eq_false_iff_not, beq_iff_eq, beq_eq_false_iff_ne, bne_iff_ne, bne_eq_false_iff_eq, ne_eq] at *); omega))) rfl ?_
 exact k_.u) : p := h ⟨k_⟩
theorem ZDL {p : Prop} (h : p := by
 refine ZC0 ?_
 exact l_end0 (fun w hw => rets_cell rfl rfl y_bW (row_own (b := b1) (l := cBd ((putB k x B).setV (k / 5) { ((putB k x B).v (k / 5)) with on := ((putB k x B).v (k / 5)).on && readyB (k / 5) (putB k x B) })) m_m w hw)) ⟨rfl, y_bt⟩) : p := h
theorem ZDM {p : Prop} (h : p := by
 refine ZC0 ?_
 exact l_end0 (fun w hw => rets_cell rfl rfl y_bW (row_own (b := b1) (l := cBd ((putB k x B).setV (k / 5) { ((putB k x B).v (k / 5)) with on := ((putB k x B).v (k / 5)).on && readyB (k / 5) (putB k x B) })) m_m w hw)) ⟨rfl, y_el⟩) : p := h
theorem ZDN {p : Prop} (h : p := by
 refine c_ret ?_
 exact E0 rfl ⟨rfl, (congrArg Value.bool y_j)⟩) : p := h
theorem ZDO {p q : Prop} (k_ : q) (h : Wr q → p := by
 intro k_
 refine c_draw [(b0, blk [.pointer (some ⟨A.mb, 0, none⟩)] 153)] [1, 2, 3, 4] (.step true 0 (.step true 1 (.step true 2 (.step true 3 (.step false 4 (.step false 5 (.step true 6 .done))))))) rfl y_g y_g (fun x hx => y_bo) ?_
 refine d_loadA rfl rfl rfl rfl y_bH rfl rfl ?_
 exact k_.u) : p := h ⟨k_⟩
theorem ZDP {p q : Prop} (k_ : q) (h : Wr q → p := by
 intro k_
 refine Rl ?_
 refine RZ (x_val call_32 rfl (fun w hw => same_fn (some ⟨b4, 0, none⟩) (some ⟨b1, 0, none⟩) c2 c0 (encA (runM g.plan (newM (romG g)) (s % 150).toNat)) y_dw w (Ns.of (row_own (b := b4) y_l w hw).left) (Ns.of (row_own (b := b1) y_l w hw).left))) rfl ?_
 exact k_.u) : p := h ⟨k_⟩
theorem ZDQ {p q : Prop} (k_ : q) (h : Wr q → p := by
 intro k_
 refine ZA6 ?_
 refine RZ (x_load rfl rfl (at_own m_m (show (cU (oneU u))[8365]? = some (.int .i64 (u.dot + 1)) from cU_dot (hu.one hd)))) rfl ?_
 exact k_.u) : p := h ⟨k_⟩
theorem ZDR {p q : Prop} (k_ : q) (h : Wr q → p := by
 intro k_
 refine RY (idx_slice1 (308 + (a % 26).toNat) rfl rfl rfl rfl o_m) rfl ?_
 refine RZ (x_storeTo (l' := (flipL (romG g) (308 + (a % 26).toNat) x).map (Value.int .u8)) 0 rfl rfl rfl rfl rfl rfl (len_byte (n := 65536) hl9 o_m) (put_byte (l := romG g) _ hl9 o_m o_m)) rfl ?_
 exact k_.u) : p := h ⟨k_⟩
theorem ZDS {p q : Prop} (k_ : q) (h : Wr q → p := by
 intro k_
 refine L_6 ?_
 refine RX (x_callIT (F := [(b0, _), (rb, _)]) (A := G) rfl K.mR K.cR rfl (fun w hw => K.dR h.m hG (St.lentV hw) o_m)) rfl ?_
 exact k_.u) : p := h ⟨k_⟩
theorem ZDT {p q : Prop} (k_ : q) (h : Wr q → p := by
 intro k_
 refine ZAA ?_
 refine ZAT ?_
 exact k_.u) : p := h ⟨k_⟩
theorem ZDU {p q : Prop} (k_ : q) (h : Wr q → p := by
 intro k_
 refine ZAA ?_
 refine L_5 ?_
 exact k_.u) : p := h ⟨k_⟩
theorem ZDV {p : Prop} (h : p := by
 have e9 : errH l = 7 := by unfold errH; rw [if_neg o_m, if_neg y_bb]; rw [hs0]; dsimp only; rw [if_pos o_m]
 exact l_end0 (fun w hw => rets_cell2 rfl rfl rfl (row_own (b := b0) (l := cHd zHd) m_m w hw) rfl) ⟨rfl, y_ed⟩) : p := h
theorem ZDW {p : Prop} (h : p := by
 refine ZC2 ?_
 exact ⟨(i + 1, va0, G1, (.pointer (some ⟨b0, 0, none⟩))), ⟨y_D, fun j hj' => y_d9, .inr rfl, hV1.as (by rfl) y_bL, fun h => absurd h (Nat.succ_ne_zero _)⟩, y_D, .cons rfl .nil, a_g, fun _ h => h⟩) : p := h
theorem ZDX {p q : Prop} (k_ : q) (h : Wr q → p := by
 intro k_
 refine DX rfl (x_makeN (n := (hdH rom).ram.toNat) (z := .int .u8 0) (vnf_int hram.1) (vnf_int hram.1) o_m rfl rfl rfl rfl) rfl y_ei ?_
 exact k_.u) : p := h ⟨k_⟩
theorem ZDY {p q : Prop} (k_ : q) (h : Wr q → p := by
 intro k_
 refine ZAb ?_
 refine c_false rfl ?_
 exact k_.u) : p := h ⟨k_⟩
theorem ZDZ {p q : Prop} (k_ : q) (h : Wr q → p := by
 intro k_
 refine ZAA ?_
 refine ZAm ?_
 exact k_.u) : p := h ⟨k_⟩
theorem ZDa {p q : Prop} (k_ : q) (h : Wr q → p := by
 intro k_
 refine ZA0 ?_
 refine c_heap (L' := [(b0, blk (cCp (tickCp (cyc2 (cyc1 m)).cp)) 127), (A.mb, blk (cMm A acc (cyc5 (cyc4 (cyc3 (cyc2 (cyc1 m)))))) 137), (A.ub, blk (cU (cyc5 (cyc4 (cyc3 (cyc2 (cyc1 m))))).u) 178)]) (fun _ h => h.as (by rw [cyc5_u]; rfl)) ?_
 exact k_.u) : p := h ⟨k_⟩
theorem ZDb {p : Prop} (h : p := by
 have hw9 : (putU u (numU a) x).Wf := (hu.set hx y_a).off _
 refine l_heap (H' := [(b, blk (cU (putU u (numU a) x)) 178)]) (fun _ h => h.as y_cl) ?_
 refine RZ (x_callA call_305 rfl (fun w hw => ask_fn b (putU u (numU a) x) hw9 w (St.lentA hw))) rfl ?_
 refine ZAI ?_
 exact EV rfl (List.Sublist.refl _) ⟨congrArg _ (wv_R _ hno y_a).symm, y_eg⟩) : p := h
theorem ZDc {p q : Prop} (k_ : q) (h : Wr q → p := by
 intro k_
 refine RY (idx_slice1 (n := romS b) (333) rfl rfl rfl rfl o_m) rfl ?_
 refine RZ (x_storeTo (l' := (madeI kind b ram prog).map (Value.int .u8)) 0 rfl rfl rfl rfl rfl rfl (len_byte hlZ o_m) (put_byte (l := madeZ kind b ram prog) _ hlZ o_m o_m)) rfl ?_
 exact k_.u) : p := h ⟨k_⟩
theorem ZDd {p q : Prop} (k_ : q) (h : Wr q → p := by
 intro k_
 refine ZBK fun e7 => ?_
 have e8 : metJ o x = true := by unfold metJ; rw [(decide_eq_true o_m : decide (23 ≤ o.kind ∧ o.kind ≤ 26) = true)]; simpa using q0
 revert e7 e8
 exact k_.u) : p := h ⟨k_⟩
theorem ZDe {p q : Prop} (k_ : q) (h : Wr q → p := by
 intro k_
 refine RZ (x_loadA rfl rfl y_w (row_own (b := b0) (l := cBd (beginB (k / 5) (putB k x B))) m_m)) rfl ?_
 refine RZ (x_storeTo (l' := cBd (beginB (k / 5) (putB k x B))) 0 rfl rfl rfl y_cd (ones_cBd _) rfl y_dh (putZ (hPK.beginW (k / 5)).ln)) rfl ?_
 exact k_.u) : p := h ⟨k_⟩
theorem ZDf {p q : Prop} (k_ : q) (h : Wr q → p := by
 intro k_
 refine L_7 ?_
 refine RZ (x_storeTo (l' := cN K { (push K.toBusA x.s.r.pc (idles K.toBusA 1 x)).s with r := { (push K.toBusA x.s.r.pc (idles K.toBusA 1 x)).s.r with pc := o.n } }) 1 rfl rfl rfl rfl rfl rfl (Nat.le_of_ble_eq_true rfl) rfl) rfl ?_
 exact k_.u) : p := h ⟨k_⟩
theorem ZDg {p q : Prop} (k_ : q) (h : Wr q → p := by
 intro k_
 refine RZ (x_loadA rfl rfl rfl (fun w hw => rowM_ck (m := (cyc5 (cyc4 (cyc3 (cyc2 (cyc1 m)))))) (acc := acc) (row_own (b := A.mb) m_m w hw))) rfl ?_
 refine RLv call_347 (fun w hw => tickCk_fn (cyc5 (cyc4 (cyc3 (cyc2 (cyc1 m))))).ck q4.ck w) ?_
 exact k_.u) : p := h ⟨k_⟩
theorem ZDh {p q : Prop} (k_ : q) (h : Wr q → p := by
 intro k_
 refine ZAd ?_
 refine ZBL ?_
 exact k_.u) : p := h ⟨k_⟩
theorem ZDi {p q : Prop} (k_ : q) (h : Wr q → p := by
 intro k_
 refine c_draw [(b0, blk (cO o) 50)] [3, 4, 5, 6, 7] (.step true 0 (.step true 1 (.step true 2 (.step true 3 (.step true 4 (.step true 5 (.step false 6 (.step true 7 (.step false 8 .done))))))))) rfl y_g y_g (fun x hx => y_5) ?_
 refine D_6 ?_
 exact k_.u) : p := h ⟨k_⟩
theorem ZDj {p q : Prop} (k_ : q) (h : Wr q → p := by
 intro k_
 refine RZ (x_loadA rfl rfl (by rw [cBd_len q2.bd]; rfl) (fun w hw => rowM_bd (m := (cyc3 (cyc2 (cyc1 m)))) (acc := acc) (row_own (b := A.mb) m_m w hw))) rfl ?_
 refine RLv call_345 (fun w hw => tickB_fn (cyc3 (cyc2 (cyc1 m))).bd q2.bd w) ?_
 exact k_.u) : p := h ⟨k_⟩
theorem ZDk {p q : Prop} (k_ : q) (h : Wr q → p := by
 intro k_
 refine ZA0 ?_
 refine DR [5, 6, 7, 8] (pln [0, 2, 4, 6, 8, 10, 12, 14, 16, 18, 20, 22]) ?_
 exact k_.u) : p := h ⟨k_⟩
theorem ZDl {p : Prop} (h : p := by
 refine ZA4 ?_
 exact l_end0 (fun w hw => rets_cell rfl rfl rfl (row_own (b := b1) m_m w hw)) ⟨rfl, y_be⟩) : p := h
theorem ZDm {p : Prop} (h : p := by
 refine ZA4 ?_
 exact l_end0 (fun w hw => rets_cell rfl rfl rfl (row_own (b := b1) m_m w hw)) ⟨rfl, y_bD⟩) : p := h
theorem ZDn {p q : Prop} (k_ : q) (h : Wr q → p := by
 intro k_
 refine RW (v := (.int .i64 (a % 26))) (rem_pos rfl rfl y_c) rfl (congrArg _ (Int.tmod_eq_emod_of_nonneg o_m)) ?_
 refine RW (v := (.int .i64 (((308 + (a % 26).toNat) : Nat) : Int))) rfl rfl (congrArg _ ((wrap_i64 o_m o_m).trans o_m)) ?_
 exact k_.u) : p := h ⟨k_⟩
theorem ZDo {p q : Prop} (k_ : q) (h : Wr q → p := by
 intro k_
 refine ZAa ?_
 refine ZA1 ?_
 exact k_.u) : p := h ⟨k_⟩
theorem ZDp {p q : Prop} (k_ : q) (h : Wr q → p := by
 intro k_
 refine ZCQ ?_
 refine ZA0 ?_
 exact k_.u) : p := h ⟨k_⟩
theorem ZDq {p q : Prop} (k_ : q) (h : Wr q → p := by
 intro k_
 refine DZ rfl (x_val call_207 rfl (fun w hw => rpair_fn K rb x.s h.r w (row_own (l := cN K x.s) m_m w hw) o.x)) rfl y_b ?_
 exact k_.u) : p := h ⟨k_⟩
theorem ZDr {p q : Prop} (k_ : q) (h : Wr q → p := by
 intro k_
 refine ZAG ?_
 refine ZCh ?_
 exact k_.u) : p := h ⟨k_⟩
theorem ZDs {p q : Prop} (k_ : q) (h : Wr q → p := by
 intro k_
 refine DY rfl (idx_array (s := 160) u.line.toNat rfl rfl rfl o_m o_m) rfl ?_
 refine DZ rfl (x_storeTo (l' := cU { u with P := putI u.P (u.line.toNat * 160) (rowU u) }) 3 rfl rfl rfl rfl rfl rfl y_dD (putU_P hu y_er)) rfl n_h ?_
 exact k_.u) : p := h ⟨k_⟩
theorem ZDt {p q : Prop} (k_ : q) (h : Wr q → p := by
 intro k_
 refine ZAA ?_
 refine RX (x_box (l := [.int .u8 page, .int .i64 left]) rfl rfl) rfl ?_
 exact k_.u) : p := h ⟨k_⟩
theorem ZDu {p q : Prop} (k_ : q) (h : Wr q → p := by
 intro k_
 refine c_true rfl ?_
 exact k_.u) : p := h ⟨k_⟩
theorem ZDv {p q : Prop} (k_ : q) (h : Wr q → p := by
 intro k_
 rintro _ _ ⟨_, ⟨rfl, va0, G1, hV1, rfl⟩, rfl⟩
 refine l_heap (fun _ h => h) (H' := (b0, blk [(.pointer (some ⟨b0, 0, none⟩)), va0] 257) :: G1) ?_
 revert va0 G1 hV1
 exact k_.u) : p := h ⟨k_⟩
theorem ZDw {p q : Prop} (k_ : q) (h : Wr q → p := by
 intro k_
 refine ZAA ?_
 refine RZ (x_loadA rfl rfl rfl y_V) rfl ?_
 exact k_.u) : p := h ⟨k_⟩
theorem ZDx {p q : Prop} (k_ : q) (h : Wr q → p := by
 intro k_
 refine ZAA ?_
 refine RZ (x_loadA rfl rfl rfl y_1) rfl ?_
 exact k_.u) : p := h ⟨k_⟩
theorem ZDy {p q : Prop} (k_ : q) (h : Wr q → p := by
 intro k_
 have ho : turnO k a = (a % 2 == 1) := by unfold turnO; rw [hk]; rfl
 rw [x16 (x := a % 2) o_m, or_zc]
 revert ho
 exact k_.u) : p := h ⟨k_⟩
theorem ZDz {p : Prop} (h : p := by
 refine ZBr ?_
 exact l_end0 (fun _ _ => rets_v2 rfl rfl) ⟨rfl, y_e⟩) : p := h
theorem ZD0 {p : Prop} (h : p := by
 refine ZBr ?_
 exact l_end0 (fun _ _ => rets_v2 rfl rfl) ⟨rfl, y_u⟩) : p := h
theorem ZD1 {p q : Prop} (k_ : q) (h : Wr q → p := by
 intro k_
 refine c_draw [(b0, blk (cO o) 50)] [3, 4, 5, 6] (.step true 0 (.step true 1 (.step true 2 (.step true 3 (.step true 4 (.step true 5 (.step false 6 (.step false 7 .done)))))))) rfl y_g y_g (fun x hx => y_5) ?_
 refine D_6 ?_
 exact k_.u) : p := h ⟨k_⟩
theorem ZD2 {p q : Prop} (k_ : q) (h : Wr q → p := by
 intro k_
 refine ZAZ ?_
 refine RLv call_311 (fun w hw => opens_fn x hx w) ?_
 exact k_.u) : p := h ⟨k_⟩
theorem ZD3 {p q : Prop} (k_ : q) (h : Wr q → p := by
 intro k_
 refine RZ (x_storeTo (l' := cBd (putB k x B)) 0 rfl rfl rfl y_bC (ones_cBd _) rfl y_cf (putZ hPK)) rfl ?_
 refine ZC0 ?_
 exact k_.u) : p := h ⟨k_⟩
theorem ZD4 {p q : Prop} (k_ : q) (h : Wr q → p := by
 intro k_
 refine RX (x_alloc rfl) rfl ?_
 rintro _ _ ⟨b2, rfl, rfl⟩
 revert b2
 exact k_.u) : p := h ⟨k_⟩
theorem ZD5 {p q : Prop} (k_ : q) (h : Wr q → p := by
 intro k_
 refine ZA6 ?_
 refine RZ (x_load rfl rfl (at_old (get0 hr (cU_line hu)) y_z)) rfl ?_
 exact k_.u) : p := h ⟨k_⟩
theorem ZD6 {p q : Prop} (k_ : q) (h : Wr q → p := by
 intro k_
 refine ZAG ?_
 refine L_3 ?_
 exact k_.u) : p := h ⟨k_⟩
theorem ZD7 {p q : Prop} (k_ : q) (h : Wr q → p := by
 intro k_
 refine RW (rem_pos rfl rfl y_c) rfl y_T ?_
 exact k_.u) : p := h ⟨k_⟩
theorem ZD8 {p q : Prop} (k_ : q) (h : Wr q → p := by
 intro k_
 refine ZAA ?_
 refine RX (x_box (l := [.int .u8 sel, .int .u8 down]) rfl rfl) rfl ?_
 exact k_.u) : p := h ⟨k_⟩
theorem ZD9 {p q : Prop} (k_ : q) (h : Wr q → p := by
 intro k_
 refine ZAP ?_
 refine RLa ?_
 exact k_.u) : p := h ⟨k_⟩
theorem ZEA {p q : Prop} (k_ : q) (h : Wr q → p := by
 intro k_
 refine Rl ?_
 refine RW (v := (.int .u8 (x % 256))) (l_conv rfl rfl rfl) rfl (congrArg _ ((wrap_u8 _).trans o_m)) ?_
 exact k_.u) : p := h ⟨k_⟩
theorem ZEB {p q : Prop} (k_ : q) (h : Wr q → p := by
 intro k_
 refine ZAf ?_
 refine ZAj ?_
 exact k_.u) : p := h ⟨k_⟩
theorem ZEC {p q : Prop} (k_ : q) (h : Wr q → p := by
 intro k_
 refine ZAB ?_
 refine ZAU ?_
 exact k_.u) : p := h ⟨k_⟩
theorem ZED {p : Prop} (h : p := by
 have e9 : errH l = 4 := by unfold errH; rw [if_neg o_m, if_pos y_bb]
 exact l_end0 (fun w hw => rets_cell2 rfl rfl rfl (row_own (b := b0) (l := cHd zHd) m_m w hw) rfl) ⟨rfl, y_ed⟩) : p := h
theorem ZEE {p : Prop} (h : p := by
 refine ZCz ?_
 exact ⟨(q, pa1, pc1, G0, r, pa2, pc2, G1), ⟨hq, hP1, hr, hP2⟩, .cons rfl (.cons rfl .nil), a_g, fun _ h => St.fl [G1, hM r _, G0, hM q _, [_]] [3, 1, 2, 0] rfl h⟩) : p := h
theorem ZEF {p q : Prop} (k_ : q) (h : Wr q → p := by
 intro k_
 refine RZ (x_load rfl rfl (at_old (hra _ _ (map_at (j := i) o_m)) y_z)) rfl ?_
 exact k_.u) : p := h ⟨k_⟩
theorem ZEG {p q : Prop} (k_ : q) (h : Wr q → p := by
 intro k_
 refine ZDZ ?_
 refine RLv call_314 (fun w hw => sig_fn ⟨cnt, tima, tma, tac, over⟩ ⟨k1, k2, k3, k4⟩ w) ?_
 exact k_.u) : p := h ⟨k_⟩
theorem ZEH {p q : Prop} (k_ : q) (h : Wr q → p := by
 intro k_
 refine RX (x_alloc (l := cHd zHd) rfl) rfl ?_
 exact k_.u) : p := h ⟨k_⟩
theorem ZEI {p q : Prop} (k_ : q) (h : Wr q → p := by
 intro k_
 refine RX (x_alloc (l := (cS ⟨⟨0, 0, 0, 0, 0, 0, 0, 0, 0, 0⟩, false, false, false, false⟩)) rfl) rfl ?_
 exact k_.u) : p := h ⟨k_⟩
theorem ZEJ {p q : Prop} (k_ : q) (h : Wr q → p := by
 intro k_
 refine DW (v := (.int .i64 a)) rfl rfl rfl (as_i64 o_m o_m) ?_
 refine DW (v := (.int .i64 ((a % 150).toNat : Int))) rfl (rem_pos rfl rfl y_c) rfl (congrArg _ ((Int.tmod_eq_emod_of_nonneg o_m).trans o_m)) ?_
 exact k_.u) : p := h ⟨k_⟩
theorem ZEK {p q : Prop} (k_ : q) (h : Wr q → p := by
 intro k_
 refine DW (v := (.int .i64 c)) rfl rfl rfl (as_i64 o_m o_m) ?_
 refine DW (v := (.int .i64 ((c % 150).toNat : Int))) rfl (rem_pos rfl rfl y_c) rfl (congrArg _ ((Int.tmod_eq_emod_of_nonneg o_m).trans o_m)) ?_
 exact k_.u) : p := h ⟨k_⟩
theorem ZEL {p q : Prop} (k_ : q) (h : Wr q → p := by
 intro k_
 refine DY rfl (light_struct rfl rfl rfl rfl) rfl ?_
 exact k_.u) : p := h ⟨k_⟩
theorem ZEM {p : Prop} (h : p := by
 have e9 : errH l = 2 := by unfold errH; rw [if_pos o_m]
 exact l_end0 (fun w hw => rets_cell2 rfl rfl rfl (row_own (b := b0) (l := cHd zHd) m_m w hw) rfl) ⟨rfl, y_ed⟩) : p := h
theorem ZEN {p q : Prop} (k_ : q) (h : Wr q → p := by
 intro k_
 refine DW rfl (shr_pos rfl rfl y_c) rfl (as_shr 256 y_c y_c) ?_
 refine ZCJ ?_
 exact k_.u) : p := h ⟨k_⟩
theorem ZEO {p q : Prop} (k_ : q) (h : Wr q → p := by
 intro k_
 refine L_3 ?_
 refine RZ (x_storeTo (l' := cMm A acc { (cyc5 (cyc4 (cyc3 (cyc2 (cyc1 m))))) with ck := tickCk (cyc5 (cyc4 (cyc3 (cyc2 (cyc1 m))))).ck }) 1 rfl rfl rfl rfl rfl rfl y_dx (putM_ck _)) rfl ?_
 exact k_.u) : p := h ⟨k_⟩
theorem ZEP {p q : Prop} (k_ : q) (h : Wr q → p := by
 intro k_
 refine ZAV ?_
 refine RX (x_callMA (F := Gp) (A := hM q (runM g.plan (newM (romG g)) (s % 150).toNat)) (G := [(b0, blk (cGm g) 25)]) call_31 rfl (fun w hw _ => encodeL q _ hi9.wf hi9.rg y_ba _ w hw)) rfl ?_
 exact k_.u) : p := h ⟨k_⟩
theorem ZEQ {p q : Prop} (k_ : q) (h : Wr q → p := by
 intro k_
 refine ZAU ?_
 refine RZ (x_val call_64 rfl (fun w hw => peek_fn b u hu w (row_old hr y_z w hw) _ ha)) rfl ?_
 exact k_.u) : p := h ⟨k_⟩
theorem ZER {p q : Prop} (k_ : q) (h : Wr q → p := by
 intro k_
 refine RZ (x_loadA rfl rfl rfl (fun w hw => Row.left (Row.left (row_own (l := cN K x.s) m_m w hw)))) rfl ?_
 exact k_.u) : p := h ⟨k_⟩
theorem ZES {p q : Prop} (k_ : q) (h : Wr q → p := by
 intro k_
 refine ZD6 ?_
 refine RZ (x_load rfl rfl (at_own m_m (cU_sig hu.ask))) rfl ?_
 exact k_.u) : p := h ⟨k_⟩
theorem ZET {p q : Prop} (k_ : q) (h : Wr q → p := by
 intro k_
 refine Rl ?_
 refine RLv call_128 (fun w hw => atB_fn m.bk h.bk a ha w) ?_
 exact k_.u) : p := h ⟨k_⟩
theorem ZEU {p q : Prop} (k_ : q) (h : Wr q → p := by
 intro k_
 refine ZCN ?_
 simp only [List.cons_append, List.nil_append, List.append_nil]
 exact k_.u) : p := h ⟨k_⟩
theorem ZEV {p : Prop} (h : p := by
 refine ZC0 ?_
 exact l_end0 (fun w hw => rets_cell rfl rfl y_bm (row_own (b := b1) (l := cBd B) m_m w hw)) ⟨rfl, by rw [show writeBd n x B = B from if_pos o_m]⟩) : p := h
theorem ZEW {p : Prop} (h : p := by
 have e9 : effJ K.toBusA o x = x := by unfold effJ; rw [e7, e8]; rfl
 exact EV rfl (.cons _ (List.Sublist.refl _)) ⟨congrArg Value.bool e8.symm, G, y_s, y_d7⟩) : p := h
theorem ZEX {p q : Prop} (k_ : q) (h : Wr q → p := by
 intro k_
 refine L_3 ?_
 refine RZ (x_storeTo (l' := cMm A acc (cyc4 (cyc3 (cyc2 (cyc1 m))))) 1 rfl rfl rfl (by rw [cBd_len q2.bd.tick.ln]; rfl) (ones_cBd _) rfl y_cT (putM_bd q2.ln q2.bd.tick.ln)) rfl ?_
 exact k_.u) : p := h ⟨k_⟩
theorem ZEY {p q : Prop} (k_ : q) (h : Wr q → p := by
 intro k_
 refine RY y_dN rfl ?_
 refine RZ (x_load rfl rfl (at_old (hr _ _ (cBd_r hB (j := 0) y_c)) y_z)) rfl ?_
 exact k_.u) : p := h ⟨k_⟩
theorem ZEZ {p q : Prop} (k_ : q) (h : Wr q → p := by
 intro k_
 refine ZD9 ?_
 refine RZ (x_load rfl rfl (at_own (v := .bool false) m_m ((cBd_on hB).trans y_dB))) rfl ?_
 exact k_.u) : p := h ⟨k_⟩
theorem ZEa {p q : Prop} (k_ : q) (h : Wr q → p := by
 intro k_
 refine RY (idx_slice1 (308 + (a % 26).toNat) rfl rfl rfl rfl o_m) rfl ?_
 refine RZ (x_load rfl rfl (at_own (v := .int .u8 ((romG g).getD (308 + (a % 26).toNat) 0)) (b := b1) m_m y_cQ)) rfl ?_
 exact k_.u) : p := h ⟨k_⟩
theorem ZEb {p q : Prop} (k_ : q) (h : Wr q → p := by
 intro k_
 refine d_nil ?_
 exact k_.u) : p := h ⟨k_⟩
theorem ZEc {p q : Prop} (k_ : q) (h : Wr q → p := by
 intro k_
 refine ZD9 ?_
 refine RZ (x_load rfl rfl (at_own (v := .bool true) m_m ((cBd_on hB).trans y_dB))) rfl ?_
 exact k_.u) : p := h ⟨k_⟩
theorem ZEd {p q : Prop} (k_ : q) (h : Wr q → p := by
 intro k_
 refine ZAA ?_
 refine RX (x_box (l := cR r) rfl rfl) rfl ?_
 exact k_.u) : p := h ⟨k_⟩
theorem ZEe {p q : Prop} (k_ : q) (h : Wr q → p := by
 intro k_
 refine ZAA ?_
 refine RX (x_box (l := cO o) rfl rfl) rfl ?_
 exact k_.u) : p := h ⟨k_⟩
theorem ZEf {p q : Prop} (k_ : q) (h : Wr q → p := by
 intro k_
 refine L_7 ?_
 refine RX (x_callT (F := [(b0, _)]) (A := (rb, _) :: _) call_153 rfl (fun w hw => rpush_fn K rb (idles K.toBusA 1 x) (h.idleK 1) G0 hG0 x.s.r.pc h.r.pc w (St.lentV hw))) rfl ?_
 exact k_.u) : p := h ⟨k_⟩
theorem ZEg {p q : Prop} (k_ : q) (h : Wr q → p := by
 intro k_
 refine ZCq ?_
 refine RZ (x_load rfl rfl (at_old y_by (hpn _ rfl))) rfl ?_
 exact k_.u) : p := h ⟨k_⟩
theorem ZEh {p : Prop} (h : p := by
 refine RLv call_9 (fun w hw => awake_fn w) ?_
 exact ZBU) : p := h
theorem ZEi {p q : Prop} (k_ : q) (h : Wr q → p := by
 intro k_
 refine ZBj ?_
 refine RZ (x_load rfl rfl (at_own (v := .bool (cyc5 (cyc4 (cyc3 (cyc2 (cyc1 m))))).hd.clock) m_m (get_mid (m := (cyc5 (cyc4 (cyc3 (cyc2 (cyc1 m)))))) q4.ln (j := 8) rfl))) rfl ?_
 exact k_.u) : p := h ⟨k_⟩
theorem ZEj {p q : Prop} (k_ : q) (h : Wr q → p := by
 intro k_
 refine DR [5, 6, 7, 8, 9, 10, 11, 12, 13, 14, 15, 16, 17, 18, 19, 20, 21] (pln [0, 2, 4, 6, 8, 10, 12, 14, 16, 18, 20, 22, 24, 26, 28, 30, 32, 34, 36, 40, 42, 39, 44, 47]) ?_
 refine D_4 ?_
 exact k_.u) : p := h ⟨k_⟩
theorem ZEk {p q : Prop} (k_ : q) (h : Wr q → p := by
 intro k_
 refine RZ (x_loadA rfl rfl rfl (row_own (b := b3) (l := cHd (hdH l)) m_m)) rfl ?_
 refine RZ (x_storeTo (l' := cHd (hdH l)) 1 rfl rfl rfl rfl rfl rfl (Nat.le_of_ble_eq_true rfl) rfl) rfl ?_
 exact k_.u) : p := h ⟨k_⟩
theorem ZEl {p q : Prop} (k_ : q) (h : Wr q → p := by
 intro k_
 refine ZAB ?_
 refine ZAV ?_
 exact k_.u) : p := h ⟨k_⟩
theorem ZEm {p q : Prop} (k_ : q) (h : Wr q → p := by
 intro k_
 refine ZAB ?_
 refine ZA0 ?_
 exact k_.u) : p := h ⟨k_⟩
theorem ZEn {p q : Prop} (k_ : q) (h : Wr q → p := by
 intro k_
 refine ZBB ?_
 refine ZAs ?_
 exact k_.u) : p := h ⟨k_⟩
theorem ZEo {p q : Prop} (k_ : q) (h : Wr q → p := by
 intro k_
 refine ZAm ?_
 refine RX (x_callT (F := [(b0, _)]) (A := (rb, _) :: _) call_157 rfl (fun w hw => rplaces_fn K rb x (h.le o_m : RunOk K.toBusO (bn + 1) x) G1 hG1 o ho w (St.lentV hw))) rfl ?_
 exact k_.u) : p := h ⟨k_⟩
theorem ZEp {p : Prop} (h : p := by
 refine ZAY ?_
 exact EV rfl (List.sublist_cons_self _ _) ⟨congrArg _ y_N, rfl⟩) : p := h
theorem ZEq {p q : Prop} (k_ : q) (h : Wr q → p := by
 intro k_
 refine ZAV ?_
 refine RW (shr_pos rfl rfl y_c) rfl (as_shr 2 y_c y_c) ?_
 exact k_.u) : p := h ⟨k_⟩
theorem ZEr {p q : Prop} (k_ : q) (h : Wr q → p := by
 intro k_
 refine d_sure true rfl rfl rfl rfl y_z ?_
 exact k_.u) : p := h ⟨k_⟩
theorem ZEs {p q : Prop} (k_ : q) (h : Wr q → p := by
 intro k_
 refine l_nes (ks := [.int .i64, .int .i64, .int .u16, .int .i64, .int .i64, .int .i64, .int .i64, .int .u16, .bool]) rfl rfl y_g y_g rfl rfl rfl rfl (b := false) y_ca ?_
 refine L_2 ?_
 exact k_.u) : p := h ⟨k_⟩
theorem ZEt {p q : Prop} (k_ : q) (h : Wr q → p := by
 intro k_
 refine RLv call_126 (fun w hw => clockB_fn m.bk h.bk w) ?_
 rw [hc9]
 exact k_.u) : p := h ⟨k_⟩
theorem ZEu {p q : Prop} (k_ : q) (h : Wr q → p := by
 intro k_
 refine Rl ?_
 refine ZAw ?_
 exact k_.u) : p := h ⟨k_⟩
theorem ZEv {p q : Prop} (k_ : q) (h : Wr q → p := by
 intro k_
 refine ZAd ?_
 refine Rl ?_
 exact k_.u) : p := h ⟨k_⟩
theorem ZEw {p q : Prop} (k_ : q) (h : Wr q → p := by
 intro k_
 refine RZ (x_storeTo (l' := cDd (stepM g.plan (runM g.plan (newM (romG g)) i)).1) 0 rfl rfl rfl rfl rfl rfl (Nat.le_of_ble_eq_true rfl) rfl) rfl ?_
 simp only [List.set_cons_zero]
 exact k_.u) : p := h ⟨k_⟩
theorem ZEx {p : Prop} (h : p := by
 have hs9 : putU u (numU a) x = { u with R := u.R.set (numU a).toNat x } := by
  unfold putU; rw [set_n y_a y_a]; exact off_no y_ck
 exact ZDb) : p := h
theorem ZEy {p : Prop} (h : p := by
 refine ZAB ?_
 exact ⟨0, trivial, .cons (congrArg (Value.int .u8) (by rw [hcj]; unfold chrH; rw [if_pos o_m]; rfl)) .nil, a_g, fun _ h => h⟩) : p := h
end Go.VV
