/- A law's cartridge. -/
import Derived.Test.YtldehodcfajpjaaGreatQcN
set_option linter.unusedSimpArgs false
set_option linter.unusedVariables false
set_option maxRecDepth 100000
namespace Go.Proofs.YtldehodcfajpjaaGreat
open Go Go.VV Go.Proofs
theorem peek_fn (b : Nat) (u : PU) (hu : u.Wf) (w : World) (hr : Row w b 0 (cU u)) (a : Int) (ha : 0 ≤ a ∧ a < 65536) : Does Tryz.prog 64 [.pointer (some ⟨b, 0, none⟩), .int .u16 a] w [] (fun v H => H = [] ∧ v = .int .u8 (peekU u a)) := by
 have hlb := hu.line
 have hnr := num_range a
 have hmr := mode_range u
 refine does_of Tryz.func64 rfl rfl rfl (St.refl w) ?_
 refine ZAa ?_
 refine ZAz ?_
 refine ZAK ?_
 refine ZCc ?_
 rcases addr_ways ha with ⟨j, hj, rfl⟩ | ⟨j, hj, rfl⟩ | hno
 ·refine ZBz ?_
  rw [place_V hj]
  refine ZBA ?_
  refine ZAV ?_
  refine ZEB ?_
  refine ZAU ?_
  refine RZ (x_load rfl rfl (at_old (hr _ _ (cU_V hu hj)) y_z)) rfl ?_
  refine ZAI ?_
  exact E0 rfl ⟨rfl, congrArg _ (peek_V hj).symm⟩
 ·refine ZBz ?_
  rw [place_O hj]
  refine ZBA ?_
  refine ZAV ?_
  refine ZEB ?_
  refine ZAU ?_
  refine RZ (x_load rfl rfl (at_old (get0 hr (cU_O hu hj)) y_z)) rfl ?_
  refine ZAI ?_
  exact E0 rfl ⟨rfl, congrArg _ (peek_O hj).symm⟩
 ·refine ZBz ?_
  rw [place_no hno]
  refine ZBA ?_
  refine ZAV ?_
  refine ZDh ?_
  refine ZAV ?_
  refine RLv call_123 (fun w hw => number_fn _ ha w) ?_
  refine ZAB ?_
  refine ZAG ?_
  refine ZBO ?_
  refine ZAS ?_
  refine KC (fun q0 q0n => ?_) (fun q0 q0n => ?_)
  ·refine ZAY ?_
   exact E0 rfl ⟨rfl, congrArg _ (by rw [peek_R hno, if_pos y_a])⟩
  ·refine ZAS ?_
   refine KC (fun q1 q1n => ?_) (fun q1 q1n => ?_)
   ·refine ZD5 ?_
    refine RW (v := (.int .u8 (u.line % 256))) rfl rfl (congrArg _ (wrap_u8 _)) ?_
    refine ZAI ?_
    exact E0 rfl ⟨rfl, congrArg _ (by rw [peek_R hno, if_neg y_a, if_pos y_a])⟩
   ·refine ZAS ?_
    refine KC (fun q2 q2n => ?_) (fun q2 q2n => ?_)
    ·refine ZA0 ?_
     refine DR [7, 8, 9] (pln [0, 2, 4, 6, 8, 10, 12, 14, 17, 18, 20, 22]) ?_
     refine D_4 ?_
     refine DY rfl (idx_array1 (numU a).toNat rfl rfl rfl y_a y_a) rfl ?_
     refine DL rfl rfl rfl (s_old (get0 hr (cU_R hu (j := (numU a).toNat) y_a)) y_z) rfl ?_
     refine D_2 ?_
     refine DZ rfl (x_val call_124 rfl (fun w hw => mode_fn b u hu w (row_old hr y_z w hw))) rfl y_b ?_
     refine DW (v := (.int .u8 (modeU u))) rfl rfl rfl (congrArg _ (wrap_u8_id o_m o_m)) ?_
     refine DW (v := (.int .u8 (statU u))) rfl rfl rfl (by have h9 : (numU a).toNat = 1 := y_a; rw [h9]; rfl) ?_
     refine ZC9 ?_
     refine ZA1 ?_
     refine RLv call_125 (fun w hw => found_fn b u hu w (row_old hr y_z w hw)) ?_
     refine ZAb ?_
     refine KC (fun q3 q3n => ?_) (fun q3 q3n => ?_)
     ·refine ZAP ?_
      refine ZAR ?_
      refine ZBr ?_
      exact E0 rfl ⟨rfl, congrArg _ (by rw [peek_R hno, if_neg y_a, if_neg y_a, if_pos y_a, if_pos q3]; try rfl)⟩
     ·refine ZAx ?_
      refine ZBr ?_
      exact E0 rfl ⟨rfl, congrArg _ (by rw [peek_R hno, if_neg y_a, if_neg y_a, if_pos y_a, if_neg (by rw [q3]; decide)]; try rfl)⟩
    ·refine ZAx ?_
     refine ZBl ?_
     refine RY (idx_array1 (numU a).toNat rfl rfl rfl y_a y_a) rfl ?_
     refine RZ (x_load rfl rfl (at_old (get0 hr (cU_R hu (j := (numU a).toNat) y_a)) y_z)) rfl ?_
     refine ZAI ?_
     exact E0 rfl ⟨rfl, congrArg _ (by rw [peek_R hno, if_neg y_a, if_neg y_a, if_neg y_a])⟩
theorem read_fn (b : Nat) (u : PU) (hu : u.Wf) (w : World) (hr : Row w b 0 (cU u)) (a : Int) (ha : 0 ≤ a ∧ a < 65536) : Does Tryz.prog 302 [.pointer (some ⟨b, 0, none⟩), .int .u16 a] w [] (fun v H => H = [] ∧ v = .int .u8 (readU u a)) := by
 refine does_of Tryz.func302 rfl rfl rfl (St.refl w) ?_
 refine ZAa ?_
 refine ZAz ?_
 refine ZAK ?_
 refine ZCc ?_
 rcases addr_ways ha with ⟨j, hj, rfl⟩ | ⟨j, hj, rfl⟩ | hno
 ·refine ZBz ?_
  rw [place_V hj]
  refine ZBA ?_
  refine ZAV ?_
  refine ZAf ?_
  refine L_2 ?_
  refine RLv call_124 (fun w hw => mode_fn b u hu w (row_old hr y_z w hw)) ?_
  refine ZAR ?_
  refine KC (fun q0 q0n => ?_) (fun q0 q0n => ?_)
  ·refine ZAY ?_
   exact E0 rfl ⟨rfl, congrArg _ (by rw [read_V hj, if_pos y_a])⟩
  ·refine ZAx ?_
   refine ZEQ ?_
   refine ZAI ?_
   exact E0 rfl ⟨rfl, congrArg _ (by rw [read_V hj, if_neg y_a])⟩
 ·refine ZBz ?_
  rw [place_O hj]
  refine ZBA ?_
  refine ZAV ?_
  refine ZAf ?_
  refine L_2 ?_
  refine RLv call_124 (fun w hw => mode_fn b u hu w (row_old hr y_z w hw)) ?_
  refine ZAR ?_
  refine KC (fun q0 q0n => ?_) (fun q0 q0n => ?_)
  ·refine ZAY ?_
   exact E0 rfl ⟨rfl, congrArg _ (by rw [read_O hj, if_pos y_a])⟩
  ·refine ZAx ?_
   refine ZEQ ?_
   refine ZAI ?_
   exact E0 rfl ⟨rfl, congrArg _ (by rw [read_O hj, if_neg y_a])⟩
 ·refine ZBz ?_
  rw [place_no hno]
  refine ZBA ?_
  refine ZAV ?_
  refine ZAd ?_
  refine L_6 ?_
  refine ZBL ?_
  refine ZEQ ?_
  refine ZAI ?_
  exact E0 rfl ⟨rfl, congrArg _ (read_no hno).symm⟩
set_option maxHeartbeats 2000000 in
theorem write_fn (b : Nat) (u : PU) (hu : u.Wf) (w : World) (hst : St w [b] [(b, blk (cU u) 178)] w) (a x : Int) (ha : 0 ≤ a ∧ a < 65536) (hx : 0 ≤ x ∧ x < 256) : Does Tryz.prog 303 [.pointer (some ⟨b, 0, none⟩), .int .u16 a, .int .u8 x] w [b] (fun v H => v = .int .u8 (writeV u a x) ∧ H = [(b, blk (cU (writeU u a x)) 178)]) := by
 have hnr := num_range a
 refine does_of Tryz.func303 rfl rfl rfl hst ?_
 refine ZAa ?_
 refine ZAz ?_
 refine ZAK ?_
 refine ZCc ?_
 rcases addr_ways ha with ⟨j, hj, rfl⟩ | ⟨j, hj, rfl⟩ | hno
 ·refine ZBz ?_
  rw [place_V hj]
  refine ZBA ?_
  refine ZAV ?_
  refine ZEB ?_
  refine ZA1 ?_
  refine RLv call_124 (fun w hw => mode_fn b u hu w (row_own m_m w hw)) ?_
  refine ZAE ?_
  refine KC (fun q0 q0n => ?_) (fun q0 q0n => ?_)
  ·refine ZAP ?_
   refine ZBQ ?_
   refine RZ (x_storeTo (l' := cU { u with V := u.V.set j x }) 0 rfl rfl rfl rfl rfl rfl y_k (by rw [Nat.zero_add]; exact putU_V hu hj x)) rfl ?_
   refine ZAH ?_
   refine ZAY ?_
   exact EV rfl (List.Sublist.refl _) ⟨congrArg _ (wv_V _ hj).symm, by rw [write_V _ hj, if_pos y_a]⟩
  ·refine ZAx ?_
   refine ZAY ?_
   exact EV rfl (List.Sublist.refl _) ⟨congrArg _ (wv_V _ hj).symm, by rw [write_V _ hj, if_neg y_a]⟩
 ·refine ZBz ?_
  rw [place_O hj]
  refine ZBA ?_
  refine ZAV ?_
  refine ZEB ?_
  refine ZA1 ?_
  refine RLv call_124 (fun w hw => mode_fn b u hu w (row_own m_m w hw)) ?_
  refine ZAE ?_
  refine KC (fun q0 q0n => ?_) (fun q0 q0n => ?_)
  ·refine ZAP ?_
   refine ZBQ ?_
   refine RZ (x_storeTo (l' := cU { u with O := u.O.set j x }) 0 rfl rfl rfl rfl rfl rfl y_k (putU_O hu hj x)) rfl ?_
   refine ZAH ?_
   refine ZAY ?_
   exact EV rfl (List.Sublist.refl _) ⟨congrArg _ (wv_O _ hj).symm, by rw [write_O _ hj, if_pos y_a]⟩
  ·refine ZAx ?_
   refine ZAY ?_
   exact EV rfl (List.Sublist.refl _) ⟨congrArg _ (wv_O _ hj).symm, by rw [write_O _ hj, if_neg y_a]⟩
 ·refine ZBz ?_
  rw [place_no hno]
  refine ZBA ?_
  refine ZAV ?_
  refine ZDh ?_
  refine ZAV ?_
  refine RLv call_123 (fun w hw => number_fn _ ha w) ?_
  refine Rl ?_
  refine RLv call_189 (fun w hw => lit_fn b u hu w (row_own m_m w hw)) ?_
  refine ZAE ?_
  refine ZAG ?_
  refine ZBO ?_
  refine ZAS ?_
  refine KC (fun q0 q0n => ?_) (fun q0 q0n => ?_)
  ·refine ZAY ?_
   exact EV rfl (List.Sublist.refl _) ⟨congrArg _ (wv_no _ hno y_a).symm, by rw [write_no _ hno y_a]⟩
  ·refine ZAS ?_
   refine KC (fun q1 q1n => ?_) (fun q1 q1n => ?_)
   ·refine ZAP ?_
    refine L_6 ?_
    refine RY (idx_array1 (numU a).toNat rfl rfl rfl y_a y_a) rfl ?_
    refine RZ (x_storeTo (l' := cU { u with R := u.R.set 1 (band .u8 x 120) }) 0 rfl rfl rfl rfl rfl rfl y_k (by rw [show (numU a).toNat = 1 by (try simp only [decide_eq_true_eq, decide_eq_false_iff_not, beq_iff_eq, beq_eq_false_iff_ne, bne_iff_ne, bne_eq_false_iff_eq, ne_eq] at *); omega]; exact putU_R hu (j := 1) y_c _)) rfl ?_
    refine ZAH ?_
    refine ZA1 ?_
    refine KL (fun q2 q2n => ?_) (fun q2 q2n => ?_)
    ·refine Rl ?_
     refine RLv call_189 (fun w hw => lit_fn b ({ u with R := u.R.set 1 (band .u8 x 120) }) (hu.set1 hx) w (row_own m_m w hw)) ?_
     refine ZAE ?_
     refine KC (fun q3 q3n => ?_) (fun q3 q3n => ?_)
     ·refine ZCx ?_
      refine RZ (x_storeTo (l' := cU ({ ({ u with R := u.R.set 1 (band .u8 x 120) } : PU) with line := 0 } : PU)) 0 rfl rfl rfl rfl rfl rfl (by rw [cU_len (hu.set1 hx)]; simp only [List.length_cons, List.length_nil]; (try simp only [decide_eq_true_eq, decide_eq_false_iff_not, beq_iff_eq, beq_eq_false_iff_ne, bne_iff_ne, bne_eq_false_iff_eq, ne_eq] at *); omega) (putU_line (hu.set1 hx) _)) rfl ?_
      refine ZA3 ?_
      refine L_2 ?_
      refine RZ (x_storeTo (l' := cU ({ ({ u with R := u.R.set 1 (band .u8 x 120) } : PU) with line := 0, dot := 0 } : PU)) 0 rfl rfl rfl rfl rfl rfl (by rw [cU_len ((hu.set1 hx).line_ (x := 0) y_c)]; simp only [List.length_cons, List.length_nil]; (try simp only [decide_eq_true_eq, decide_eq_false_iff_not, beq_iff_eq, beq_eq_false_iff_ne, bne_iff_ne, bne_eq_false_iff_eq, ne_eq] at *); omega) (putU_dot ((hu.set1 hx).line_ (x := 0) y_c) _)) rfl ?_
      refine ZA3 ?_
      refine L_2 ?_
      refine RZ (x_storeTo (l' := cU ({ ({ u with R := u.R.set 1 (band .u8 x 120) } : PU) with line := 0, dot := 0, own := 0 } : PU)) 0 rfl rfl rfl rfl rfl rfl (by rw [cU_len (((hu.set1 hx).line_ (x := 0) y_c).dot_ (x := 0) y_c)]; simp only [List.length_cons, List.length_nil]; (try simp only [decide_eq_true_eq, decide_eq_false_iff_not, beq_iff_eq, beq_eq_false_iff_ne, bne_iff_ne, bne_eq_false_iff_eq, ne_eq] at *); omega) (putU_own (((hu.set1 hx).line_ (x := 0) y_c).dot_ (x := 0) y_c) _)) rfl ?_
      refine ZAH ?_
      refine ZAV ?_
      have hs9 : putU u (numU a) x = ({ ({ u with R := u.R.set 1 (band .u8 x 120) } : PU) with line := 0, dot := 0, own := 0 } : PU) := by
       unfold putU; rw [set_1 y_a]; exact off_yes y_ck y_ck
      exact ZDb
     ·refine ZAx ?_
      refine ZAV ?_
      have hs9 : putU u (numU a) x = { u with R := u.R.set 1 (band .u8 x 120) } := by
       unfold putU; rw [set_1 y_a]; exact off_no y_ck
      exact ZDb
    ·refine L_4 ?_
     refine ZBL ?_
     refine ZAV ?_
     have hs9 : putU u (numU a) x = { u with R := u.R.set 1 (band .u8 x 120) } := by
      unfold putU; rw [set_1 y_a]; exact off_no y_ck
     exact ZDb
   ·refine ZAS ?_
    refine KC (fun q2 q2n => ?_) (fun q2 q2n => ?_)
    ·refine ZAx ?_
     refine ZA1 ?_
     refine KL (fun q3 q3n => ?_) (fun q3 q3n => ?_)
     ·refine Rl ?_
      refine RLv call_189 (fun w hw => lit_fn b (u) hu w (row_own m_m w hw)) ?_
      refine ZAE ?_
      refine KC (fun q4 q4n => ?_) (fun q4 q4n => ?_)
      ·refine ZCx ?_
       refine RZ (x_storeTo (l' := cU ({ (u : PU) with line := 0 } : PU)) 0 rfl rfl rfl rfl rfl rfl y_k (putU_line hu _)) rfl ?_
       refine ZA3 ?_
       refine L_2 ?_
       refine RZ (x_storeTo (l' := cU ({ (u : PU) with line := 0, dot := 0 } : PU)) 0 rfl rfl rfl rfl rfl rfl (by rw [cU_len (hu.line_ (x := 0) y_c)]; simp only [List.length_cons, List.length_nil]; (try simp only [decide_eq_true_eq, decide_eq_false_iff_not, beq_iff_eq, beq_eq_false_iff_ne, bne_iff_ne, bne_eq_false_iff_eq, ne_eq] at *); omega) (putU_dot (hu.line_ (x := 0) y_c) _)) rfl ?_
       refine ZA3 ?_
       refine L_2 ?_
       refine RZ (x_storeTo (l' := cU ({ (u : PU) with line := 0, dot := 0, own := 0 } : PU)) 0 rfl rfl rfl rfl rfl rfl (by rw [cU_len ((hu.line_ (x := 0) y_c).dot_ (x := 0) y_c)]; simp only [List.length_cons, List.length_nil]; (try simp only [decide_eq_true_eq, decide_eq_false_iff_not, beq_iff_eq, beq_eq_false_iff_ne, bne_iff_ne, bne_eq_false_iff_eq, ne_eq] at *); omega) (putU_own ((hu.line_ (x := 0) y_c).dot_ (x := 0) y_c) _)) rfl ?_
       refine ZAH ?_
       refine ZAV ?_
       have hs9 : putU u (numU a) x = ({ (u : PU) with line := 0, dot := 0, own := 0 } : PU) := by
        unfold putU; rw [set_4 y_a]; exact off_yes y_ck y_ck
       exact ZDb
      ·refine ZAx ?_
       refine ZAV ?_
       have hs9 : putU u (numU a) x = u := by
        unfold putU; rw [set_4 y_a]; exact off_no y_ck
       exact ZDb
     ·refine L_4 ?_
      refine ZBL ?_
      refine ZAV ?_
      have hs9 : putU u (numU a) x = u := by
       unfold putU; rw [set_4 y_a]; exact off_no y_ck
      exact ZDb
    ·refine ZCx ?_
     refine RY (idx_array1 (numU a).toNat rfl rfl rfl y_a y_a) rfl ?_
     refine RZ (x_storeTo (l' := cU { u with R := u.R.set (numU a).toNat x }) 0 rfl rfl rfl rfl rfl rfl y_k (putU_R hu (j := (numU a).toNat) y_a x)) rfl ?_
     refine ZAH ?_
     refine ZA1 ?_
     refine KL (fun q3 q3n => ?_) (fun q3 q3n => ?_)
     ·refine Rl ?_
      refine RLv call_189 (fun w hw => lit_fn b ({ u with R := u.R.set (numU a).toNat x }) (hu.setn hx y_a y_a) w (row_own m_m w hw)) ?_
      refine ZAE ?_
      refine KC (fun q4 q4n => ?_) (fun q4 q4n => ?_)
      ·refine ZCx ?_
       refine RZ (x_storeTo (l' := cU ({ ({ u with R := u.R.set (numU a).toNat x } : PU) with line := 0 } : PU)) 0 rfl rfl rfl rfl rfl rfl (by rw [cU_len (hu.setn hx y_a y_a)]; simp only [List.length_cons, List.length_nil]; (try simp only [decide_eq_true_eq, decide_eq_false_iff_not, beq_iff_eq, beq_eq_false_iff_ne, bne_iff_ne, bne_eq_false_iff_eq, ne_eq] at *); omega) (putU_line (hu.setn hx y_a y_a) _)) rfl ?_
       refine ZA3 ?_
       refine L_2 ?_
       refine RZ (x_storeTo (l' := cU ({ ({ u with R := u.R.set (numU a).toNat x } : PU) with line := 0, dot := 0 } : PU)) 0 rfl rfl rfl rfl rfl rfl (by rw [cU_len ((hu.setn hx y_a y_a).line_ (x := 0) y_c)]; simp only [List.length_cons, List.length_nil]; (try simp only [decide_eq_true_eq, decide_eq_false_iff_not, beq_iff_eq, beq_eq_false_iff_ne, bne_iff_ne, bne_eq_false_iff_eq, ne_eq] at *); omega) (putU_dot ((hu.setn hx y_a y_a).line_ (x := 0) y_c) _)) rfl ?_
       refine ZA3 ?_
       refine L_2 ?_
       refine RZ (x_storeTo (l' := cU ({ ({ u with R := u.R.set (numU a).toNat x } : PU) with line := 0, dot := 0, own := 0 } : PU)) 0 rfl rfl rfl rfl rfl rfl (by rw [cU_len (((hu.setn hx y_a y_a).line_ (x := 0) y_c).dot_ (x := 0) y_c)]; simp only [List.length_cons, List.length_nil]; (try simp only [decide_eq_true_eq, decide_eq_false_iff_not, beq_iff_eq, beq_eq_false_iff_ne, bne_iff_ne, bne_eq_false_iff_eq, ne_eq] at *); omega) (putU_own (((hu.setn hx y_a y_a).line_ (x := 0) y_c).dot_ (x := 0) y_c) _)) rfl ?_
       refine ZAH ?_
       refine ZAV ?_
       have hs9 : putU u (numU a) x = ({ ({ u with R := u.R.set (numU a).toNat x } : PU) with line := 0, dot := 0, own := 0 } : PU) := by
        unfold putU; rw [set_n y_a y_a]; exact off_yes y_ck y_ck
       exact ZDb
      ·refine ZAx ?_
       refine ZAV ?_
       exact ZEx
     ·refine L_4 ?_
      refine ZBL ?_
      refine ZAV ?_
      exact ZEx
theorem sprite_fn (b : Nat) (u : PU) (hu : u.Wf) (w : World) (hst : St w [b] [(b, blk (cU u) 178)] w) (n x : Int) (hx : 0 ≤ x ∧ x < 256) : Does Tryz.prog 344 [.pointer (some ⟨b, 0, none⟩), .int .i64 n, .int .u8 x] w [b] (fun v H => v = .tuple #[] ∧ H = [(b, blk (cU (spriteU u n x)) 178)]) := by
 refine does_of Tryz.func344 rfl rfl rfl hst ?_
 refine ZAA ?_
 iterate 6 refine Rl ?_
 refine KL (fun q0 q0n => ?_) (fun q0 q0n => ?_)
 ·refine ZAR ?_
  refine KC (fun q1 q1n => ?_) (fun q1 q1n => ?_)
  ·refine ZCx ?_
   refine RY (idx_array1 n.toNat rfl rfl rfl y_a y_a) rfl ?_
   refine RZ (x_storeTo (l' := cU { u with O := u.O.set n.toNat x }) 0 rfl rfl rfl rfl rfl rfl y_k (putU_O hu (j := n.toNat) y_a x)) rfl ?_
   refine ZAH ?_
   exact EN (List.Sublist.refl _) ⟨rfl, by unfold spriteU; rw [if_pos y_a]⟩
  ·refine ZAx ?_
   exact EN (List.Sublist.refl _) ⟨rfl, by unfold spriteU; rw [if_neg y_a]⟩
 ·refine L_3 ?_
  refine ZBL ?_
  exact EN (List.Sublist.refl _) ⟨rfl, by unfold spriteU; rw [if_neg y_a]⟩
theorem grow_fn (n : Nat) (hn : n ≤ 1000000) (w : World) : Does Tryz.prog 191 [.slice none 0 0, .int .i64 n] w [] (fun v H => Vec 5 1 v 0 [] H) := by
 refine does_of Tryz.func191 rfl rfl rfl (St.refl w) ?_
 refine ZDo ?_
 refine l_sure false rfl rfl rfl y_z ?_
 refine ZBL ?_
 refine ZCd ?_
 refine RY (light_cap rfl rfl) rfl ?_
 refine Rl ?_
 refine ZCU ?_
 refine RW (v := (.int .i64 0)) rfl rfl rfl ?_
 refine RW (v := (.int .i64 (n : Int))) rfl rfl (congrArg _ (by rw [Int.sub_zero]; exact wrap_i64 o_m o_m)) ?_
 refine ZAB ?_
 refine ZAS ?_
 refine KC (fun q0 q0n => ?_) (fun q0 q0n => ?_)
 ·refine ZAo ?_
  refine RY (light_cap rfl rfl) rfl ?_
  refine RY (cut_pre 0 rfl rfl rfl rfl y_c) rfl ?_
  refine Rl ?_
  refine RX (x_append0M (n := n) (T := 5) (s := 1) (by_ := 1) rfl rfl rfl rfl rfl o_m hn y_c) rfl ?_
  rintro _ _ ⟨b0, cap, sp, rfl, rfl, hsp, hcap, hcm⟩
  refine Rl ?_
  refine ZCU ?_
  refine RY (cut_pre 0 rfl rfl rfl rfl o_m) rfl ?_
  refine ZAB ?_
  refine ZBr ?_
  exact EV rfl (List.Sublist.refl _) (.row b0 0 cap [] sp rfl (by simpa using hsp) hcm (Nat.zero_le _))
 ·refine ZAx ?_
  refine ZBr ?_
  exact E0 rfl .nil
theorem concat_fn (b : Nat) (S : List Sg) (w : World) (hr : Row w b 0 (flat cSg S)) (hn : S.length ≤ 1000) (hs : ∀ s ∈ S, Ns w .u8 s.a s.l ∧ s.l.length ≤ s.c) (hl : (catS S).length ≤ 1000000) :
  Does Tryz.prog 145 [.slice (some ⟨b, 0, none⟩) S.length S.length] w [] (fun v H => Vec 5 1 v (catS S).length ((catS S).map (.int .u8)) H) := by
 refine does_of Tryz.func145 rfl rfl rfl (St.refl w) ?_
 refine c_seq ?_
 refine c_region ?_
 refine Rl ?_
 refine l_nil ?_
 refine c_seq ?_
 refine c_region ?_
 refine Rl ?_
 refine l_nil ?_
 refine c_seq ?_
 refine c_seq ?_
 refine c_region ?_
 refine Rl ?_
 refine RY l_n rfl ?_
 refine Rl ?_
 refine l_nil ?_
 refine c_block ?_
 refine c_loopk (σ := Nat) [3, 5, 11, 12, 13, 14, 15, 16, 17, 18, 19, 20, 21, 22] (fun i => [(3, .int .i64 ((catS (S.take i)).length : Int)), (11, .int .i64 i)]) (fun i => i ≤ S.length) (fun i => S.length - i) 0 ?_ ?_ ?_
 ·exact Nat.zero_le _
 ·exact .cons rfl (.cons rfl .nil)
 ·intro i y3 hi
  have hc0 := catS_le S i
  refine c_seq ?_
  refine c_region ?_
  refine Rl ?_
  refine l_nil ?_
  refine c_seq ?_
  refine KC (fun h1 h1n => ?_) (fun h1 h1n => ?_)
  ·refine c_skip ?_
   refine c_seq ?_
   refine c_block ?_
   refine c_seq ?_
   obtain ⟨s, hsi⟩ : ∃ s, S[i]? = some s := ⟨_, get_some o_m⟩
   have hc1 := catS_snoc S i hsi
   have hc2 := catS_le S (i + 1)
   have hc3 := congrArg List.length hc1
   rw [List.length_append] at hc3
   refine c_region ?_
   refine RY (idx_slice1 i rfl rfl rfl rfl o_m) rfl ?_
   refine RZ (x_load rfl rfl (fun w hw => y_ek)) rfl ?_
   refine Rl ?_
   refine l_nil ?_
   refine c_seq ?_
   refine c_region ?_
   refine L_2 ?_
   refine RY (light_len (a := s.a) (c := s.c) rfl rfl) rfl ?_
   refine RW (v := (.int .i64 (((catS (S.take i)).length : Int) + (s.l.length : Int)))) rfl rfl (congrArg _ (wrap_i64 o_m o_m)) ?_
   refine Rl ?_
   refine l_nil ?_
   refine c_seq ?_
   refine c_region ?_
   refine Rl ?_
   refine l_sure false rfl rfl rfl y_bz ?_
   refine l_nil ?_
   refine c_false rfl ?_
   refine c_skip ?_
   refine c_region ?_
   refine RW (v := (.int .i64 ((i + 1 : Nat) : Int))) rfl rfl (congrArg _ (succ_law o_m)) ?_
   refine Rl ?_
   refine l_nil ?_
   exact ⟨i + 1, y_D, y_D, .cons (congrArg (Value.int .i64) (show (((catS (S.take i)).length : Int) + (s.l.length : Int)) = ((catS (S.take (i + 1))).length : Int) by omega)) (.cons rfl .nil), a_g, fun _ h => h⟩
  ·refine c_exit rfl ?_
   refine c_seq ?_
   obtain rfl : S.length = i := by omega
   rw [List.take_length]
   refine c_region ?_
   refine Rl ?_
   refine RX (x_call call_191 rfl (fun w hw => grow_fn _ o_m w)) rfl ?_
   rintro v24 _ ⟨G24, hV24, rfl⟩
   refine l_as' (v := v24) rfl rfl rfl ?_
   refine l_nil ?_
   refine c_seq ?_
   refine c_seq ?_
   refine c_region ?_
   refine Rl ?_
   refine RY l_n rfl ?_
   refine Rl ?_
   refine l_nil ?_
   refine c_block ?_
   refine c_loop (σ := Nat × Value × Heap) [6, 8, 27, 28, 29, 30, 31, 32, 33, 34] (fun s => [(6, s.2.1), (27, .int .i64 s.1)]) (fun s => s.2.2 ++ []) (fun s => s.1 ≤ S.length ∧ Vec 5 1 s.2.1 (catS (S.take s.1)).length ((catS (S.take s.1)).map (.int .u8)) s.2.2) (fun s => S.length - s.1) (0, v24, G24) ?_ ?_ ?_ ?_
   ·exact ⟨Nat.zero_le _, hV24⟩
   ·exact .cons rfl (.cons rfl .nil)
   ·exact fun _ h => h
   ·rintro ⟨i, v6, G6⟩ y11 ⟨hi, hV6⟩
    dsimp only at hi hV6 ⊢
    obtain ⟨a6, c6, rfl⟩ := hV6.slice
    have hle6 := hV6.cap_le.1
    refine c_seq ?_
    refine c_region ?_
    refine Rl ?_
    refine l_nil ?_
    refine c_seq ?_
    refine KC (fun h2 h2n => ?_) (fun h2 h2n => ?_)
    ·refine c_skip ?_
     refine c_seq ?_
     refine c_block ?_
     refine c_seq ?_
     obtain ⟨s, hsi⟩ : ∃ s, S[i]? = some s := ⟨_, get_some o_m⟩
     obtain ⟨hsN, hsc⟩ := hs s (List.mem_of_getElem? hsi)
     have hc1 := catS_snoc S i hsi
     have hc2 := catS_le S (i + 1)
     have hc3 := congrArg List.length hc1
     rw [List.length_append] at hc3
     rcases (show s.l.length = 0 ∨ 0 < s.l.length by omega) with hs0 | hs1
     ·refine c_region ?_
      refine RY (idx_slice1 i rfl rfl rfl rfl o_m) rfl ?_
      refine RZ (x_load rfl rfl (fun w hw => y_ek)) rfl ?_
      refine Rl ?_
      refine l_nil ?_
      refine c_region ?_
      refine L_2 ?_
      refine RZ (x_appendZ rfl rfl hs0 rfl rfl hle6) rfl ?_
      refine Rl ?_
      refine l_nil ?_
      refine c_region ?_
      refine RW (v := (.int .i64 ((i + 1 : Nat) : Int))) rfl rfl (congrArg _ (succ_law o_m)) ?_
      refine Rl ?_
      refine l_nil ?_
      exact ⟨(i + 1, _, G6), ⟨y_D, by rw [hc1, List.eq_nil_of_length_eq_zero hs0, List.append_nil]; exact hV6⟩, y_D, .cons rfl (.cons rfl .nil), a_g, fun _ h => h⟩
     ·refine c_region ?_
      refine RY (idx_slice1 i rfl rfl rfl rfl o_m) rfl ?_
      refine RZ (x_load rfl rfl (fun w hw => y_ek)) rfl ?_
      refine Rl ?_
      refine l_nil ?_
      refine c_region ?_
      refine L_2 ?_
      obtain ⟨bs9, os9, has9, hrs⟩ := hsN hs1
      rw [has9]
      refine RX (x_appendE (A := []) (G := G6 ++ []) (n := (catS (S.take i)).length) (m := s.l.length) (T := 5) (s := 1) (by_ := 1) (ys := s.l.map (.int .u8)) rfl rfl rfl rfl (by rw [List.append_nil]; exact hV6) (fun w hw => .row _ _ _ _ _ y_z (row_old hrs y_z w hw)) (ones_int _ _) o_m o_m) rfl ?_
      rintro v33 _ ⟨G33, hV33, _, rfl⟩
      obtain ⟨a33, c33, rfl⟩ := hV33.slice
      refine Rl ?_
      refine l_nil ?_
      refine c_region ?_
      refine RW (v := (.int .i64 ((i + 1 : Nat) : Int))) rfl rfl (congrArg _ (succ_law o_m)) ?_
      refine Rl ?_
      refine l_nil ?_
      exact ⟨(i + 1, _, G33), ⟨y_D, hV33.as hc3.symm (by rw [hc1, List.map_append])⟩, y_D, .cons rfl (.cons rfl .nil), a_g, fun _ h => h⟩
    ·refine c_exit rfl ?_
     refine c_seq ?_
     obtain rfl : S.length = i := by omega
     refine c_region ?_
     refine L_2 ?_
     refine l_nil ?_
     refine c_ret ?_
     exact EV rfl (List.sublist_append_left _ _) (by have h9 := hV6; simp only [List.take_length] at h9 ⊢; exact h9)
theorem flag_fn (is : Bool) (w : World) : Does Tryz.prog 146 [.bool is] w [] (fun v H => H = [] ∧ v = .int .u8 (boolI is)) := by
 refine does_of Tryz.func146 rfl rfl rfl (St.refl w) ?_
 refine ZAa ?_
 refine ZAG ?_
 refine ZAB ?_
 refine KC (fun q0 q0n => ?_) (fun q0 q0n => ?_)
 ·refine ZAY ?_
  exact E0 rfl ⟨rfl, by subst q0; rfl⟩
 ·refine ZAx ?_
  refine ZAY ?_
  exact E0 rfl ⟨rfl, by subst q0; rfl⟩
set_option maxHeartbeats 1000000 in
theorem enc_fn (b : Nat) (u : PU) (hu : u.Wf) (w : World) (hr : Row w b 0 (cU u)) : Does Tryz.prog 79 [.pointer (some ⟨b, 0, none⟩)] w [] (fun v H => Vec 5 1 v (encU u).length ((encU u).map (.int .u8)) H) := by
 have hdb := hu.dot
 have hlb := hu.line
 have hob := hu.own
 have hfb := hu.frames
 refine does_of Tryz.func79 rfl rfl rfl (St.refl w) ?_
 refine ZAa ?_
 refine ZAz ?_
 refine ZAK ?_
 refine ZA6 ?_
 refine RZ (x_loadA rfl rfl y_c9 (row_old (rowR hu hr) y_z)) rfl ?_
 refine ZBq fun b0 => ?_
 refine RZ (x_storeTo (l' := u.R.map (.int .u8)) 0 rfl rfl rfl y_c9 (ones_int _ _) rfl (by rw [List.length_map, hu.lR]; simp) (putL_all y_c9)) rfl ?_
 refine ZAb ?_
 refine ZD5 ?_
 refine RW (l_conv rfl rfl rfl) rfl y_o ?_
 refine RY y_dP rfl ?_
 refine RZ (x_storeTo (l' := (r4 u).map (.int .u8)) 0 rfl rfl rfl rfl rfl rfl (by rw [List.length_map, hu.lR]; simp) (putL_int .u8 (by rw [hu.lR]; decide) _)) rfl ?_
 refine ZAb ?_
 refine ZA0 ?_
 have hl83 := segsE_len hu b b0
 refine DR [] (pln [0, 2, 4, 6, 8, 10, 12, 14, 16, 18, 21, 23, 24]) ?_
 refine ZCF ?_
 refine ZCw ?_
 refine DW (v := (.slice (some ⟨b0, 0, none⟩) ((r4 u).take 6).length 12)) rfl (cut_array1 0 6 rfl rfl rfl rfl rfl rfl y_c y_c) rfl (by rw [List.length_take, r4_len hu]; rfl) ?_
 refine DW (v := (.slice (some ⟨b0, 7, none⟩) ((r4 u).drop 7).length 5)) rfl (cut_array1 7 12 rfl rfl rfl rfl rfl rfl y_c y_c) rfl (by rw [List.length_drop, r4_len hu]; rfl) ?_
 refine DX rfl (x_slc rfl rfl rfl rfl rfl rfl) rfl n_h ?_
 rintro _ _ ⟨b1, rfl, rfl⟩
 refine DX rfl (x_call call_145 (vs := [.slice (some ⟨b1, 0, none⟩) 4 4]) rfl (fun w hw => concat_fn b1 (segsE u b b0) w (row_own m_m w hw) (by simp [segsE]) (segsE_ok hu (row_old hr y_z w hw) (row_own m_m w hw)) o_m)) rfl n_h ?_
 rintro v0 _ ⟨G0, hV0, rfl⟩
 obtain ⟨a29, c0, rfl⟩ := hV0.slice
 refine ZC9 ?_
 refine ZA0 ?_
 refine DR [6, 7, 8, 9, 10, 11, 12, 13, 14, 15, 16, 17, 18, 19, 20, 21, 22, 23, 24, 25, 26] (pln [0, 2, 4, 6, 8, 10, 12, 14, 16, 18, 20, 22, 24, 26, 28, 30, 32, 34, 36, 38, 40, 42, 44, 46, 48, 50, 53, 55, 57, 58]) ?_
 refine D_4 ?_
 refine DL rfl rfl rfl (s_old (get0 hr (cU_dot hu)) y_z) rfl ?_
 refine ZCJ ?_
 refine D_3 ?_
 refine DL rfl rfl rfl (s_old (get0 hr (cU_own hu)) y_z) rfl ?_
 refine ZCJ ?_
 refine D_3 ?_
 refine DL rfl rfl rfl (s_old (get0 hr (cU_frames hu)) y_z) rfl ?_
 refine ZCJ ?_
 refine D_3 ?_
 refine DL rfl rfl rfl (s_old (get0 hr (cU_frames hu)) y_z) rfl ?_
 refine ZEN ?_
 refine D_3 ?_
 refine DL rfl rfl rfl (s_old (get0 hr (cU_sig hu)) y_z) rfl ?_
 refine DZ rfl (x_val call_146 rfl (fun w hw => flag_fn u.sig w)) rfl y_b ?_
 refine DX rfl (x_slc rfl rfl rfl rfl rfl rfl) rfl n_h ?_
 rintro _ _ ⟨b2, rfl, rfl⟩
 refine d_heap (H' := [(b2, _)] ++ G0) (fun _ h => St.fl [[_], G0, [_], [_]] [0, 1] rfl h) ?_
 refine DX rfl (x_appendE (A := [(b2, blk ((tailE u).map (.int .u8)) 5)]) (G := G0) (n := (catS (segsE u b b0)).length) (m := 5) (T := 5) (s := 1) (by_ := 1) (ys := (tailE u).map (.int .u8)) rfl rfl rfl rfl hV0 (fun w hw => .row _ _ _ _ _ rfl (row_own (.head _) w hw)) (ones_int _ _) o_m o_m) rfl n_h ?_
 rintro v1 _ ⟨G1, hV1, _, rfl⟩
 refine d_as' (v := v1) rfl rfl rfl rfl ?_
 refine ZEb ?_
 refine ZCc ?_
 have hV5 : Vec 5 1 v1 (headE u).length ((headE u).map (.int .u8)) G1 := hV1.as (by rw [headE_len hu, segsE_len hu]) (by rw [segsE_cat]; simp [headE])
 refine ZAP ?_
 refine ZBO ?_
 refine c_loop (σ := Nat × Value × Heap) [4, 5, 59, 60, 61, 62, 63, 64, 65, 66, 67, 68, 69, 70] (fun s => [(4, s.2.1), (59, .int .i64 s.1)]) (fun s => s.2.2 ++ []) (fun s => s.1 ≤ 144 ∧ Vec 5 1 s.2.1 (headE u ++ u.P.take (s.1 * 160)).length ((headE u ++ u.P.take (s.1 * 160)).map (.int .u8)) s.2.2) (fun s => 144 - s.1) (0, v1, G1) ?_ ?_ ?_ ?_
 ·exact ⟨Nat.zero_le _, by simpa using hV5⟩
 ·exact .cons rfl (.cons rfl .nil)
 ·exact fun _ h => h.sub ((List.Sublist.refl _).append (List.nil_sublist _))
 ·rintro ⟨i, v2, G2⟩ y8 ⟨hi, hV2⟩
  dsimp only at hi hV2 ⊢
  obtain ⟨a4, cx1, rfl⟩ := hV2.slice
  have hl4 : (headE u ++ u.P.take (i * 160)).length ≤ 31408 := by rw [List.length_append, headE_len hu, List.length_take, hu.lP]; omega
  refine ZCI ?_
  refine KC (fun q0 q0n => ?_) (fun q0 q0n => ?_)
  ·refine ZCQ ?_
   refine ZAS ?_
   have hi144 : i < 144 := by omega
   refine ZCx ?_
   refine RY (idx_array (s := 160) i rfl rfl rfl rfl o_m) rfl ?_
   refine RW (v := (.slice (some ⟨b, 8369 + i * 160, none⟩) 160 160)) (cut_array1 0 160 rfl rfl rfl rfl rfl rfl y_c y_c) rfl rfl ?_
   refine RX (x_appendE (A := []) (G := G2 ++ []) (n := (headE u ++ u.P.take (i * 160)).length) (m := 160) (T := 5) (s := 1) (by_ := 1) (ys := ((u.P.drop (i * 160)).take 160).map (.int .u8)) rfl rfl rfl rfl (by rw [List.append_nil]; exact hV2) (fun w hw => .row _ _ _ _ _ (by rw [List.length_map, List.length_take, List.length_drop, hu.lP]; omega) (row_old (rowPi hu hr o_m) y_z w hw)) (ones_int _ _) o_m o_m) rfl ?_
   rintro v3 _ ⟨G3, hV3, _, rfl⟩
   refine l_as' (v := v3) rfl rfl rfl ?_
   refine ZAb ?_
   refine ZC2 ?_
   exact ⟨(i + 1, _, G3), ⟨y_D, hV3.as (by rw [← take_rows u.P i]; simp only [List.length_append, List.length_take, List.length_drop, hu.lP]; omega) (by rw [← take_rows u.P i]; simp)⟩, y_D, .cons rfl (.cons rfl .nil), a_g, fun _ h => h⟩
  ·refine ZBa ?_
   refine ZA0 ?_
   obtain rfl : i = 144 := by omega
   refine ZAP ?_
   refine ZAs ?_
   exact EV rfl (List.sublist_append_left _ _) (hV2.as y_c1 y_c1)
end Go.Proofs.YtldehodcfajpjaaGreat
namespace Go.Proofs.YtldehodcfajpjaaGreat
open Go Go.VV Go.Proofs Go.RowKit
theorem sorts_fn (w : World) : Does Tryz.prog 87 [] w [] (fun v H => ∃ b, v = .map (some b) ∧ H = [(b, mapO .u8 sortE 19)]) := by
 refine does_of Tryz.func87 rfl rfl rfl (St.refl w) ?_
 refine ZAa ?_
 refine ZAA ?_
 refine RX (x_makeMap .u8) rfl ?_
 refine ZC8 fun b0 => ?_
 refine RS ?_
 refine RZ (x_insNew (l := sortL (sorts.take 0) 0) (k := .u8) 0 rfl rfl rfl rfl rfl rfl) rfl ?_
 refine ZBf ?_
 refine RZ (x_insNew (l := sortL (sorts.take 1) 0) (k := .u8) 0 rfl rfl rfl rfl rfl rfl) rfl ?_
 refine ZBf ?_
 refine RZ (x_insNew (l := sortL (sorts.take 2) 0) (k := .u8) 0 rfl rfl rfl rfl rfl rfl) rfl ?_
 refine ZBf ?_
 refine RZ (x_insNew (l := sortL (sorts.take 3) 0) (k := .u8) 0 rfl rfl rfl rfl rfl rfl) rfl ?_
 refine ZBf ?_
 refine RZ (x_insNew (l := sortL (sorts.take 4) 0) (k := .u8) 0 rfl rfl rfl rfl rfl rfl) rfl ?_
 refine ZBf ?_
 refine RZ (x_insNew (l := sortL (sorts.take 5) 0) (k := .u8) 0 rfl rfl rfl rfl rfl rfl) rfl ?_
 refine ZBf ?_
 refine RZ (x_insNew (l := sortL (sorts.take 6) 0) (k := .u8) 0 rfl rfl rfl rfl rfl rfl) rfl ?_
 refine ZBf ?_
 refine RZ (x_insNew (l := sortL (sorts.take 7) 0) (k := .u8) 0 rfl rfl rfl rfl rfl rfl) rfl ?_
 refine ZBf ?_
 refine RZ (x_insNew (l := sortL (sorts.take 8) 0) (k := .u8) 0 rfl rfl rfl rfl rfl rfl) rfl ?_
 refine ZBf ?_
 refine RZ (x_insNew (l := sortL (sorts.take 9) 0) (k := .u8) 0 rfl rfl rfl rfl rfl rfl) rfl ?_
 refine ZBf ?_
 refine RZ (x_insNew (l := sortL (sorts.take 10) 0) (k := .u8) 0 rfl rfl rfl rfl rfl rfl) rfl ?_
 refine ZBf ?_
 refine RZ (x_insNew (l := sortL (sorts.take 11) 0) (k := .u8) 0 rfl rfl rfl rfl rfl rfl) rfl ?_
 refine ZBf ?_
 refine RZ (x_insNew (l := sortL (sorts.take 12) 0) (k := .u8) 0 rfl rfl rfl rfl rfl rfl) rfl ?_
 refine ZBf ?_
 refine RZ (x_insNew (l := sortL (sorts.take 13) 0) (k := .u8) 0 rfl rfl rfl rfl rfl rfl) rfl ?_
 refine ZBf ?_
 refine RZ (x_insNew (l := sortL (sorts.take 14) 0) (k := .u8) 0 rfl rfl rfl rfl rfl rfl) rfl ?_
 refine ZBf ?_
 refine RZ (x_insNew (l := sortL (sorts.take 15) 0) (k := .u8) 0 rfl rfl rfl rfl rfl rfl) rfl ?_
 refine ZBf ?_
 refine RZ (x_insNew (l := sortL (sorts.take 16) 0) (k := .u8) 0 rfl rfl rfl rfl rfl rfl) rfl ?_
 refine ZBf ?_
 refine RZ (x_insNew (l := sortL (sorts.take 17) 0) (k := .u8) 0 rfl rfl rfl rfl rfl rfl) rfl ?_
 refine ZBf ?_
 refine RZ (x_insNew (l := sortL (sorts.take 18) 0) (k := .u8) 0 rfl rfl rfl rfl rfl rfl) rfl ?_
 simp only [List.set_cons_zero]
 refine ZAs ?_
 exact EV rfl (List.Sublist.refl _) ⟨b0, rfl, rfl⟩
theorem check_fn (a : Option Addr) (c : Nat) (l : List Int) (hl : l.length ≤ 100000000) (hb : Byts l) (w : World) (hB : Ns w .u8 a l) (hlc : 333 ≤ c) : Does Tryz.prog 88 [.slice a l.length c] w [] (fun v H => H = [] ∧ v = .int .u8 (if l.length < 336 then 0 else chkH l 25)) := by
 refine does_of Tryz.func88 rfl rfl rfl (St.refl w) ?_
 refine ZDo ?_
 refine ZCU ?_
 refine ZAB ?_
 refine KC (fun q0 q0n => ?_) (fun q0 q0n => ?_)
 ·refine ZAY ?_
  exact E0 rfl ⟨rfl, y_db⟩
 ·refine ZAx ?_
  refine ZA0 ?_
  obtain ⟨ba, oa, rfl, hra⟩ := hB.row (i := 0) o_m
  refine ZAP ?_
  refine ZAB ?_
  refine ZA1 ?_
  have hlc9 := hlc
  have hcut : cut1 oa 308 c = oa + 308 := cut1_on o_m
  refine RW (v := (.slice (some ⟨ba, cut1 oa 308 c, none⟩) 25 (c - 308))) (cut_slice1 308 333 rfl rfl rfl rfl rfl rfl y_c hlc) rfl rfl ?_
  refine ZCU ?_
  refine ZBO ?_
  refine c_loop (σ := Nat) [3, 5, 12, 13, 14, 15, 16, 17, 18, 19, 20] (fun i => [(3, .int .u8 (chkH l i)), (12, .int .i64 i)]) (fun _ => []) (fun i => i ≤ 25) (fun i => 25 - i) 0 ?_ ?_ ?_ ?_
  ·exact Nat.zero_le _
  ·exact .cons rfl (.cons rfl .nil)
  ·exact fun _ h => h
  ·rintro i y5 hi
   refine ZCI ?_
   refine KC (fun q1 q1n => ?_) (fun q1 q1n => ?_)
   ·refine ZDp ?_
    have hby := hb.get (308 + i)
    have hck := chkH_ok l i
    refine ZAP ?_
    refine RY (idx_slice1 i rfl rfl rfl rfl (by show i < 333 - 308; omega)) rfl ?_
    refine RZ (x_load rfl rfl (at_old (by have h9 := hra (308 + i) _ (map_at (j := 308 + i) o_m); rwa [← Nat.add_assoc, ← hcut] at h9) y_z)) rfl ?_
    refine ZAB ?_
    refine ZAo ?_
    refine RW (v := (.int .u8 ((l.getD (308 + i) 0 + 1) % 256))) (l_add rfl rfl) rfl (as_u8m _) ?_
    refine RW (v := (.int .u8 (chkH l (i + 1)))) (l_sub rfl rfl) rfl ((as_u8m _).trans (congrArg _ y_dk)) ?_
    refine ZAB ?_
    refine ZC2 ?_
    exact ⟨i + 1, y_D, y_D, .cons rfl (.cons rfl .nil), a_g, fun _ h => h⟩
   ·refine ZBa ?_
    refine ZBr ?_
    obtain rfl : i = 25 := by omega
    exact E0 rfl ⟨rfl, y_dc⟩
theorem sum_fn (a : Option Addr) (c : Nat) (l : List Int) (hl : l.length ≤ 100000000) (hb : Byts l) (w : World) (hB : Ns w .u8 a l) : Does Tryz.prog 90 [.slice a l.length c] w [] (fun v H => H = [] ∧ v = .int .u16 (if l.length < 336 then 0 else sumH l)) := by
 refine does_of Tryz.func90 rfl rfl rfl (St.refl w) ?_
 refine ZDo ?_
 refine ZCU ?_
 refine ZAB ?_
 refine KC (fun q0 q0n => ?_) (fun q0 q0n => ?_)
 ·refine ZAY ?_
  exact E0 rfl ⟨rfl, y_db⟩
 ·refine ZAx ?_
  refine ZA0 ?_
  obtain ⟨ba, oa, rfl, hra⟩ := hB.row (i := 0) o_m
  refine ZAP ?_
  refine ZAB ?_
  refine ZA1 ?_
  refine ZCU ?_
  refine ZBO ?_
  refine c_loop (σ := Nat) [3, 5, 11, 12, 13, 14, 15, 16, 17, 18, 19] (fun i => [(3, .int .u16 (totH l i)), (11, .int .i64 i)]) (fun _ => []) (fun i => i ≤ l.length) (fun i => l.length - i) 0 ?_ ?_ ?_ ?_
  ·exact Nat.zero_le _
  ·exact .cons rfl (.cons rfl .nil)
  ·exact fun _ h => h
  ·rintro i y5 hi
   refine ZCI ?_
   refine KC (fun q1 q1n => ?_) (fun q1 q1n => ?_)
   ·refine ZDp ?_
    have hby := hb.get i
    have hck := totH_ok l i
    refine ZCq ?_
    refine ZEF ?_
    refine ZAB ?_
    refine ZAo ?_
    refine RW (v := (.int .u16 (l.getD i 0))) (l_conv rfl rfl rfl) rfl (as_u16 hby.1 o_m) ?_
    refine RW (v := (.int .u16 (totH l (i + 1)))) (l_add rfl rfl) rfl ((as_u16m _).trans (congrArg _ rfl)) ?_
    refine ZAB ?_
    refine ZC2 ?_
    exact ⟨i + 1, y_D, y_D, .cons rfl (.cons rfl .nil), a_g, fun _ h => h⟩
   ·refine ZBa ?_
    refine ZA0 ?_
    obtain rfl : i = l.length := by omega
    have hb4 := hb.get 334
    have hb5 := hb.get 335
    have hck := totH_ok l l.length
    refine DR [6, 7, 8, 9] (pln [0, 2, 4, 6, 8, 10, 12, 14, 16, 18, 20, 22]) ?_
    refine D_2 ?_
    refine DY rfl (idx_slice1 334 rfl rfl rfl rfl o_m) rfl ?_
    refine ZCn ?_
    refine DW (v := (.int .u16 ((totH l l.length - l.getD 334 0) % 65536))) rfl (l_sub rfl rfl) rfl (as_u16m _) ?_
    refine RD ?_
    refine DY rfl (idx_slice1 335 rfl rfl rfl rfl o_m) rfl ?_
    refine ZCo ?_
    refine DW (v := (.int .u16 (sumH l))) rfl (l_sub rfl rfl) rfl ((as_u16m _).trans (congrArg _ (by unfold sumH; omega))) ?_
    refine RD ?_
    refine ZBe ?_
    exact E0 rfl ⟨rfl, y_dc⟩
theorem take_snoc {l : List Int} {i : Nat} (h : i < l.length) : l.take (i + 1) = l.take i ++ [l.getD i 0] := by
 rw [List.take_add_one, List.getElem?_eq_getElem h, List.getD_eq_getElem?_getD, List.getElem?_eq_getElem h]; rfl
theorem txV_app (a b : List UInt8) : txV a ++ txV b = txV (a ++ b) := by simp [txV]
theorem name_fn (b off c : Nat) (l : List Int) (hl : l.length ≤ 1000000) (hb : Byts l) (w : World) (hr : Row w b off (l.map (.int .u8))) : Does Tryz.prog 89 [.slice (some ⟨b, off, none⟩) l.length c] w [] (fun v H => H = [] ∧ v = .string (bs (nameH l))) := by
 refine does_of Tryz.func89 rfl rfl rfl (St.refl w) ?_
 refine ZAa ?_
 refine ZAA ?_
 refine ZBq fun b0 => ?_
 refine ZAb ?_
 refine ZA1 ?_
 refine ZCU ?_
 refine ZBO ?_
 refine c_loop (σ := Nat × Value × Heap × Value) [5, 8, 9, 10, 11, 12, 13, 14, 15, 16, 17, 18, 19, 20, 21, 22] (fun s => [(8, .int .i64 s.1)]) (fun s => (b0, blk [s.2.2.2, s.2.1] 257) :: s.2.2.1) (fun s => s.1 ≤ l.length ∧ (∀ j, j < s.1 → l.getD j 0 ≠ 0) ∧ (s.2.2.2 = .pointer none ∨ s.2.2.2 = (.pointer (some ⟨b0, 0, none⟩))) ∧ Vec 5 1 s.2.1 s.1 (txV ((l.take s.1).map chrH)) s.2.2.1 ∧ (s.1 = 0 → s.2.1 = .slice none 0 0 ∧ s.2.2.1 = [])) (fun s => l.length - s.1) (0, .slice none 0 0, [], .pointer none) ?_ ?_ ?_ ?_
 ·exact ⟨Nat.zero_le _, fun j hj => y_D, .inl rfl, .nil, fun _ => ⟨rfl, rfl⟩⟩
 ·exact .cons rfl .nil
 ·exact fun _ h => h
 ·rintro ⟨i, v0, G0, ad6⟩ y3 ⟨hi, hj, hA6, hV0, q0⟩
  dsimp only at hi hj hA6 hV0 q0 ⊢
  refine ZCI ?_
  refine KC (fun q1 q1n => ?_) (fun q1 q1n => ?_)
  ·refine ZDp ?_
   have hc9 := hb.get i
   refine ZCq ?_
   refine RZ (x_load rfl rfl (at_old (hr _ _ (map_at (j := i) o_m)) y_z)) rfl ?_
   refine ZAB ?_
   refine ZAz ?_
   refine KC (fun q2 q2n => ?_) (fun q2 q2n => ?_)
   ·refine ZBa ?_
    refine ZA0 ?_
    have hTi : ((l.take i).map chrH).length = i := by rw [List.length_map, List.length_take]; omega
    refine ZDB ?_
    refine ZCN ?_
    refine ZAI ?_
    exact E0 rfl ⟨rfl, (by rw [nameH_stop hj o_m q2n])⟩
   ·refine ZAx ?_
    refine ZCd ?_
    refine KL (fun q3 q3n => ?_) (fun q3 q3n => ?_)
    ·refine L_3 ?_
     refine ZAj ?_
     refine ZAP ?_
     refine ZAB ?_
     refine ZCW ?_
     refine ZDv fun va0 G1 hV1 => ?_
     refine ZAb ?_
     exact ZDW
    ·refine ZAR ?_
     refine KC (fun q4 q4n => ?_) (fun q4 q4n => ?_)
     ·refine ZAP ?_
      refine ZAB ?_
      refine ZCW ?_
      refine ZDv fun va0 G1 hV1 => ?_
      refine ZAb ?_
      exact ZDW
     ·refine ZAx ?_
      refine ZAZ ?_
      refine RX (x_callT (F := []) (A := (b0, blk [ad6, v0] 257) :: G0) (R := fun v H => v = .nilIface ∧ ∃ va' G', Vec 5 1 va' (i + 1) (txV ((l.take i).map chrH) ++ [.int .u8 (l.getD i 0)]) G' ∧ H = (b0, blk [(.pointer (some ⟨b0, 0, none⟩)), va'] 257) :: G') call_149 rfl (fun w hw => bwrite_fn b0 ad6 v0 hA6 i o_m _ G0 hV0 (l.getD i 0) _ w (St.lentV (G := []) hw))) rfl ?_
      refine ZDv fun va0 G1 hV1 => ?_
      refine ZAb ?_
      refine ZC2 ?_
      exact ⟨(i + 1, va0, G1, (.pointer (some ⟨b0, 0, none⟩))), ⟨y_D, fun j hj' => y_d9, .inr rfl, hV1.as (by rfl) (by rw [take_snoc o_m, List.map_append, ← txV_app]; exact congrArg (fun z : Int => txV ((l.take i).map chrH) ++ [Value.int .u8 z]) ((chrH_val hc9 o_m).symm)), fun h => absurd h (Nat.succ_ne_zero _)⟩, y_D, .cons rfl .nil, a_g, fun _ h => h⟩
  ·refine ZBa ?_
   refine ZA0 ?_
   have hTi : ((l.take i).map chrH).length = i := by rw [List.length_map, List.length_take]; omega
   refine ZDB ?_
   refine ZCN ?_
   refine ZAI ?_
   exact E0 rfl ⟨rfl, (by obtain rfl : i = l.length := o_m; rw [nameH_all hj, List.take_length])⟩
theorem qcheck_fn (a : Option Addr) (c : Nat) (l : List Int) (hl : l.length ≤ 100000000) (hb : Byts l) (w : World) (hB : Ns w .u8 a l) : Does Tryz.prog 80 [.slice a l.length c] w [] (fun v H => H = [] ∧ v = .int .u8 (if l.length < 336 then 0 else chkH l 25)) := by
 refine does_of Tryz.func80 rfl rfl rfl (St.refl w) ?_
 refine ZDo ?_
 refine ZCU ?_
 refine ZAB ?_
 refine KC (fun q0 q0n => ?_) (fun q0 q0n => ?_)
 ·refine ZAY ?_
  exact E0 rfl ⟨rfl, y_db⟩
 ·refine ZAx ?_
  refine ZA0 ?_
  obtain ⟨ba, oa, rfl, hra⟩ := hB.row (i := 0) o_m
  refine ZAP ?_
  refine ZAB ?_
  refine ZAG ?_
  refine ZBO ?_
  refine c_loop (σ := Nat) [3, 4, 8, 9, 10, 11, 12, 13, 14, 15, 16, 17, 18, 19, 20, 21] (fun i => [(3, .int .i64 (chkH l i)), (4, .int .i64 ((308 + i : Nat) : Int))]) (fun _ => []) (fun i => i ≤ 25) (fun i => 25 - i) 0 ?_ ?_ ?_ ?_
  ·exact Nat.zero_le _
  ·exact .cons rfl (.cons rfl .nil)
  ·exact fun _ h => h
  ·rintro i y5 hi
   have hck9 := chkH_ok l i
   refine ZAz ?_
   refine KC (fun q1 q1n => ?_) (fun q1 q1n => ?_)
   ·refine ZCQ ?_
    have hby := hb.get (308 + i)
    have hck := chkH_ok l i
    refine ZAP ?_
    refine ZBQ ?_
    refine RY (idx_slice1 (308 + i) rfl rfl rfl rfl o_m) rfl ?_
    refine RZ (x_load rfl rfl (at_old (hra _ _ (map_at (j := 308 + i) o_m)) y_z)) rfl ?_
    refine RW (v := (.int .i64 (l.getD (308 + i) 0))) rfl rfl (as_i64 o_m o_m) ?_
    refine RW (v := (.int .i64 (chkH l i - l.getD (308 + i) 0))) rfl rfl (as_i64 o_m o_m) ?_
    refine RW (v := (.int .i64 (chkH l i - l.getD (308 + i) 0 - 1))) rfl rfl (as_i64 o_m o_m) ?_
    refine RW (v := (.int .i64 (chkH l i - l.getD (308 + i) 0 - 1 + 512))) rfl rfl (as_i64 o_m o_m) ?_
    refine RW (v := (.int .i64 (chkH l (i + 1)))) (rem_pos rfl rfl y_c) rfl (congrArg _ ((Int.tmod_eq_emod_of_nonneg o_m).trans y_dk)) ?_
    refine ZAB ?_
    refine ZAZ ?_
    refine RW (v := (.int .i64 ((308 + (i + 1) : Nat) : Int))) rfl rfl (congrArg _ ((wrap_i64 o_m o_m).trans o_m)) ?_
    refine ZAB ?_
    exact ⟨i + 1, y_D, y_D, .cons rfl (.cons rfl .nil), a_g, fun _ h => h⟩
   ·refine ZBa ?_
    refine ZAV ?_
    refine RW (v := (.int .u8 (chkH l i))) rfl rfl (as_u8 o_m o_m) ?_
    refine ZAI ?_
    obtain rfl : i = 25 := by omega
    exact E0 rfl ⟨rfl, y_dc⟩
set_option maxHeartbeats 1000000 in
theorem made_fn (kind b ram : Int) (hk : 0 ≤ kind ∧ kind < 256) (hb9 : 0 ≤ b ∧ b < 256) (hr9 : 0 ≤ ram ∧ ram < 256) (a : Option Addr) (c : Nat) (prog : List Int) (hl : prog.length ≤ 100000000) (hb : Byts prog) (w : World) (hB : Ns w .u8 a prog) : Does Tryz.prog 39 [.int .u8 kind, .int .u8 b, .int .u8 ram, .slice a prog.length c] w [] (fun v H => ∃ b11, v = .slice (some ⟨b11, 0, none⟩) (romS b) (romS b) ∧ H = [(b11, blk ((madeI kind b ram prog).map (Value.int .u8)) 5)]) := by
 have hrs := romS_ok b
 have hlZ := madeZ_len kind b ram prog
 have hbZ := madeZ_byts (b := b) hk hr9 hb
 refine does_of Tryz.func39 rfl rfl rfl (St.refl w) ?_
 refine ZAa ?_
 refine ZAa ?_
 refine ZAG ?_
 refine ZBO ?_
 refine c_loop (σ := Nat) [9, 10, 14, 15, 16, 17, 18, 19, 20, 21, 22] (fun i => [(9, .int .i64 ((32768 * 2 ^ i : Nat) : Int)), (10, .int .i64 i)]) (fun _ => []) (fun i => i ≤ (b % 9).toNat) (fun i => (b % 9).toNat - i) 0 ?_ ?_ ?_ ?_
 ·exact Nat.zero_le _
 ·exact .cons rfl (.cons rfl .nil)
 ·exact fun _ h => h
 ·rintro i y3 hi
  have hpw : 2 ^ i ≤ 2 ^ 8 := Nat.pow_le_pow_right y_c o_m
  refine ZCd ?_
  refine RW (v := (.int .i64 b)) rfl rfl (as_i64 o_m o_m) ?_
  refine RW (v := (.int .i64 (b % 9))) (rem_pos rfl rfl y_c) rfl (congrArg _ ((Int.tmod_eq_emod_of_nonneg o_m).trans o_m)) ?_
  refine ZAB ?_
  refine KC (fun q0 q0n => ?_) (fun q0 q0n => ?_)
  ·refine ZCQ ?_
   refine ZAZ ?_
   refine RW (v := (.int .i64 ((32768 * 2 ^ (i + 1) : Nat) : Int))) rfl rfl (congrArg _ ((wrap_i64 o_m o_m).trans (by rw [Nat.pow_succ]; omega))) ?_
   refine ZAB ?_
   refine ZAZ ?_
   refine ZAL ?_
   exact ⟨i + 1, y_D, y_D, .cons rfl (.cons rfl .nil), a_g, fun _ h => h⟩
  ·refine ZBa ?_
   refine ZA0 ?_
   obtain rfl : i = (b % 9).toNat := by omega
   refine ZAZ ?_
   refine RX (x_makeN (n := romS b) (z := .int .u8 0) rfl rfl o_m rfl rfl rfl rfl) rfl ?_
   rintro _ _ ⟨b11, rfl, rfl⟩
   refine ZAB ?_
   refine ZAG ?_
   refine ZBO ?_
   refine c_loop (σ := Nat) [12, 13, 25, 26, 27, 28, 29, 30, 31, 32, 33, 34, 35, 36, 37, 38, 39, 40, 41, 42, 43, 44, 45, 46, 47] (fun i => [(12, .int .i64 i)]) (fun i => [(b11, blk (((madeP (List.replicate (romS b) 0) prog i)).map (Value.int .u8)) 5)]) (fun i => i ≤ min prog.length 15000) (fun i => min prog.length 15000 - i) 0 ?_ ?_ ?_ ?_
   ·exact Nat.zero_le _
   ·exact .cons rfl .nil
   ·exact fun _ h => h.as (by simp only [madeP, List.map_replicate])
   ·rintro i y8 hi
    refine ZCd ?_
    refine ZCU ?_
    refine Rl ?_
    refine KL (fun q1 q1n => ?_) (fun q1 q1n => ?_)
    ·refine ZAR ?_
     refine KC (fun q2 q2n => ?_) (fun q2 q2n => ?_)
     ·refine ZDp ?_
      obtain ⟨ba, oa, rfl, hra⟩ := hB.row (i := i) o_m
      refine ZAZ ?_
      refine RW (v := (.int .i64 ((256 + i : Nat) : Int))) rfl rfl (as_i64 o_m o_m) ?_
      refine ZAB ?_
      refine ZAz ?_
      refine KC (fun q3 q3n => ?_) (fun q3 q3n => ?_)
      ·refine ZAZ ?_
       refine RW (v := (.int .i64 ((256 + i + 76 : Nat) : Int))) rfl rfl (as_i64 o_m o_m) ?_
       refine ZAB ?_
       refine ZAP ?_
       iterate 4 refine Rl ?_
       refine RY (idx_slice1 (n := prog.length) (i) rfl rfl rfl rfl o_m) rfl ?_
       refine ZEF ?_
       refine RY (idx_slice1 (n := romS b) (256 + i + 76) rfl rfl rfl rfl o_m) rfl ?_
       refine ZC1 ?_
       refine ZAZ ?_
       refine ZAL ?_
       exact ⟨i + 1, y_D, y_D, .cons rfl .nil, a_g, fun _ h => h⟩
      ·refine ZAx ?_
       refine ZAP ?_
       iterate 4 refine Rl ?_
       refine RY (idx_slice1 (n := prog.length) (i) rfl rfl rfl rfl o_m) rfl ?_
       refine ZEF ?_
       refine RY (idx_slice1 (n := romS b) (256 + i) rfl rfl rfl rfl o_m) rfl ?_
       refine ZC1 ?_
       refine ZAZ ?_
       refine ZAL ?_
       exact ⟨i + 1, y_D, y_D, .cons rfl .nil, a_g, fun _ h => h⟩
     ·refine ZBa ?_
      refine ZA0 ?_
      obtain rfl : i = min prog.length 15000 := by omega
      refine ZAP ?_
      iterate 5 refine Rl ?_
      refine RW (v := (.int .u8 (b % 9))) (rem_pos rfl rfl y_c) rfl (congrArg _ (Int.tmod_eq_emod_of_nonneg o_m)) ?_
      refine Rl ?_
      refine ZCP ?_
      refine ZAC ?_
      refine ZCG ?_
      refine ZAC ?_
      refine ZB1 ?_
      refine ZBb ?_
      refine ZA0 ?_
      refine c_heap (L' := [(b11, blk ((madeZ kind b ram prog).map (Value.int .u8)) 5)]) (fun _ h => h) ?_
      refine ZAo ?_
      refine RLv call_80 (fun w hw => y_bP) ?_
      refine ZDc ?_
      refine ZBb ?_
      refine ZBr ?_
      exact EV rfl (List.Sublist.refl _) ⟨b11, rfl, rfl⟩
    ·refine L_3 ?_
     refine ZDY ?_
     refine ZBa ?_
     refine ZA0 ?_
     obtain rfl : i = min prog.length 15000 := by omega
     refine ZAP ?_
     iterate 5 refine Rl ?_
     refine RW (v := (.int .u8 (b % 9))) (rem_pos rfl rfl y_c) rfl (congrArg _ (Int.tmod_eq_emod_of_nonneg o_m)) ?_
     refine Rl ?_
     refine ZCP ?_
     refine ZAC ?_
     refine ZCG ?_
     refine ZAC ?_
     refine ZB1 ?_
     refine ZBb ?_
     refine ZA0 ?_
     refine c_heap (L' := [(b11, blk ((madeZ kind b ram prog).map (Value.int .u8)) 5)]) (fun _ h => h) ?_
     refine ZAo ?_
     refine RLv call_80 (fun w hw => y_bP) ?_
     refine ZDc ?_
     refine ZBb ?_
     refine ZBr ?_
     exact EV rfl (List.Sublist.refl _) ⟨b11, rfl, rfl⟩
theorem few_fn (g : Gm) (w : World) : Does Tryz.prog 10 [.agg (cGm g).toArray] w [] (fun v H => H = [] ∧ v = .bool (fewG g)) := by
 refine does_of Tryz.func10 rfl rfl rfl (St.refl w) ?_
 refine ZAA ?_
 refine ZAt fun b0 => ?_
 refine ZEC ?_
 refine ZCU ?_
 refine Rl ?_
 refine KL (fun q0 q0n => ?_) (fun q0 q0n => ?_)
 ·refine L_2 ?_
  refine ZCU ?_
  refine ZAR ?_
  refine c_ret ?_
  exact E0 rfl ⟨rfl, (congrArg Value.bool y_bX)⟩
 ·refine L_6 ?_
  refine ZAb ?_
  refine c_ret ?_
  exact E0 rfl ⟨rfl, (congrArg Value.bool y_bX)⟩
end Go.Proofs.YtldehodcfajpjaaGreat
