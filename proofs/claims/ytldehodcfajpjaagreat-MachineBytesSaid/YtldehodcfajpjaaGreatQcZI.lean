/- The law of what is decoded. -/
import Derived.Test.YtldehodcfajpjaaGreatQcZ
import Derived.Test.YtldehodcfajpjaaGreatQcZC
import Derived.Test.YtldehodcfajpjaaGreatQcZH
set_option linter.unusedSimpArgs false
set_option linter.unusedVariables false
set_option maxRecDepth 100000
set_option maxHeartbeats 4000000
namespace Go.Proofs.YtldehodcfajpjaaGreat
open Go Go.VV
theorem zMach_len : zMach.length = 8455 := by
 unfold zMach
 simp only [List.length_append, List.length_map, List.length_replicate, List.length_cons, List.length_nil, cBd_len bdZ_wf.ln]
 rfl
section
variable {A : Ad} {acc : Value} {m : Mm}
theorem ones_mid (h : ones [acc, A.plan, A.tab] = true) : ones (midM A m) = true := by
 unfold ones at h ⊢
 simp only [List.all_cons, List.all_nil, Bool.and_true, Bool.and_eq_true] at h
 unfold midM
 simp only [List.all_append, List.all_cons, List.all_nil, h.2.1, h.2.2, Bool.and_true, Bool.true_and]
 rfl
theorem ones_cMm (h : ones [acc, A.plan, A.tab] = true) : ones (cMm A acc m) = true := by
 have h1 := ones_cBd m.bd
 have h2 := ones_int .u8 m.work
 have h3 := ones_int .u8 m.high
 have h4 := ones_mid (m := m) h
 have h5 : ones (headM m) = true := rfl
 rw [cMm_eq]
 unfold tailM
 unfold ones at h h1 h2 h3 h4 h5 ⊢
 simp only [List.all_cons, List.all_nil, Bool.and_true, Bool.and_eq_true] at h
 simp only [List.all_append, h1, h2, h3, h4, h5, List.all_cons, List.all_nil, h.1, Bool.and_true]
theorem putM_ram (h : MLn m) (b c : Nat) (s : List Value) : putL (cMm A acc m) 134 [.slice (some ⟨b, 0, none⟩) m.ram.length c] = cMm { A with rb := b, rc := c, rs := s } acc m := (put_mid h (o := 15) y_c).trans rfl
theorem putM_unit (h : MLn m) (b : Nat) : putL (cMm A acc m) 133 [.pointer (some ⟨b, 0, none⟩)] = cMm { A with ub := b } acc m := (put_mid h (o := 14) y_c).trans rfl
end
theorem okE_of {l : List Int} (h : decE l = 0) : l.length = 31408 ∧ okE l = true := by
 unfold decE at h
 split at h
 ·cases h
 ·rename_i h1
  split at h
  ·rename_i h2; exact ⟨Decidable.byContradiction h1, h2⟩
  ·cases h
theorem decU_ok {l : List Int} (hb : Byts l) (h : decE l = 0) : (decU l).Ok := by
 obtain ⟨hl, ho⟩ := okE_of h
 have hw := decU_wf hl hb ho
 unfold okE at ho
 simp only [Bool.and_eq_true, decide_eq_true_eq] at ho
 have h1 := hb.get 8356; have h3 := hb.get 8364
 exact ⟨hw, ho.1.1.1.1, ho.1.1.1.2, by show l.getD 8364 0 ≤ 255 + l.getD 8356 0 + _; split <;> omega⟩
theorem decTo_wf {u : PU} (hu : u.Wf) {l : List Int} (hb : Byts l) : (decTo u l).Wf := by
 unfold decTo
 split
 ·rename_i h; obtain ⟨hl, ho⟩ := okE_of h; exact decU_wf hl hb ho
 ·exact hu
section
variable {m : Mm} (h : m.Wf)
include h
theorem encA_byts : Byts (encA m) := byts_app (encM_byts h) (byts_app h.bRam (enc_byts h.u.wf))
def decFu (m : Mm) (l : List Int) : Mm := { decA m l with u := decU (l.drop (8482 + m.ram.length)) }
variable {l : List Int} (hb : Byts l) (hl : l.length = (encA m).length)
include hl
theorem dec_ram_len : ((l.drop 8482).take m.ram.length).length = m.ram.length := by
 rw [List.length_take, List.length_drop, hl, encA_len h]; omega
theorem cMm_decA {A : Ad} {acc : Value} : cMm A acc (decM m l) = cMm A acc (decFu m l) := by
 have e := dec_ram_len h hl
 unfold cMm tailM midM
 rw [show (decFu m l).ram.length = m.ram.length from e]
 rfl
include hb
theorem decFu_wf (hd : decE (l.drop (8482 + m.ram.length)) = 0) : (decFu m l).Wf := by
 have e := dec_ram_len h hl
 have w := decM_wf h hb (by rw [hl, encA_len h]; omega)
 exact ⟨w.bk, w.ck, w.tm, w.pd, w.pt, w.cp, w.bd, w.flags, w.lets, w.steps, w.cycles, decU_ok (byts_drop hb _) hd, w.banks, w.lRom, w.bRom, by show (((l.drop 8482).take m.ram.length).length : Int) = _; rw [e]; exact h.lRam, byts_take (byts_drop hb _) _, w.lWork, w.bWork, w.lHigh, w.bHigh⟩
omit h hl in
theorem decFu_regs : (decFu m l).cpu.r.Ok := decM_regs (m := m) hb
end
theorem decAE_size {m : Mm} {l : List Int} (h : l.length ≠ (encA m).length) : 6 = decAE m l := (if_pos h).symm
theorem decAE_unit {m : Mm} {l : List Int} (h : l.length = (encA m).length) (hd : decE (l.drop (8482 + m.ram.length)) ≠ 0) : 5 = decAE m l := by
 unfold decAE; rw [if_neg o_m, if_neg (fun h => hd h.1)]
theorem decAE_other {m : Mm} {l : List Int} (h : l.length = (encA m).length) (hd : encA (decFu m l) ≠ l) : 5 = decAE m l := by
 unfold decAE; rw [if_neg o_m, if_neg (fun h => hd h.2)]
theorem decAE_fine {m : Mm} {l : List Int} (h : l.length = (encA m).length) (hd : decE (l.drop (8482 + m.ram.length)) = 0) (he : encA (decFu m l) = l) : 0 = decAE m l := by
 unfold decAE; rw [if_neg o_m, if_pos ⟨hd, he⟩]
theorem decAM_no {m : Mm} {l : List Int} {e : Int} (h : e = decAE m l) (h0 : e ≠ 0) : decAM m l = m := by unfold decAM; rw [if_neg o_m]
theorem decAM_yes {m : Mm} {l : List Int} (h : 0 = decAE m l) : decAM m l = { decFu m l with acc := [] } := by unfold decAM; rw [if_pos h.symm]; rfl
structure Ad.Kept (A A' : Ad) : Prop where
 mb : A'.mb = A.mb
 ub : A'.ub = A.ub
 ob : A'.ob = A.ob
 oc : A'.oc = A.oc
 sp : A'.sp = A.sp
 plan : A'.plan = A.plan
 tab : A'.tab = A.tab
theorem row_part {w : World} {b off : Nat} {L l : List Value} (h : Row w b 0 L) (hl : ∀ (j : Nat) (v : Value), l[j]? = some v → L[off + j]? = some v) : Row w b off l := fun j v hv => by
 have := h (off + j) v (hl j v hv)
 rwa [Nat.zero_add] at this
end Go.Proofs.YtldehodcfajpjaaGreat
namespace Go.Proofs.YtldehodcfajpjaaGreat
open Go Go.VV Go.Proofs
theorem call_83 : callable Tryz.prog 83 = true := by kernel_rfl
theorem call_84 : callable Tryz.prog 84 = true := by kernel_rfl
theorem call_85 : callable Tryz.prog 85 = true := by kernel_rfl
theorem call_86 : callable Tryz.prog 86 = true := by kernel_rfl
theorem call_147 : callable Tryz.prog 147 = true := by kernel_rfl
theorem call_148 : callable Tryz.prog 148 = true := by kernel_rfl
theorem call_192 : callable Tryz.prog 192 = true := by kernel_rfl
theorem wrong_fn (x : Int) (w : World) : Does Tryz.prog 147 [.int .u8 x] w [] (fun v H => H = [] ∧ v = .bool (decide (3 < x))) := by
 refine does_of Tryz.func147 rfl rfl rfl (St.refl w) ?_
 refine ZAa ?_
 refine ZB4 ?_
 refine c_ret ?_
 exact E0 rfl ⟨rfl, rfl⟩
theorem index_fn (a : Option Addr) (c : Nat) (l : List Int) (hc : l.length ≤ 1000000) (w : World) (hB : Ns w .u8 a l) :
  Does Tryz.prog 192 [.slice a l.length c, .func (.func 147) #[] #[]] w [] (fun v H => H = [] ∧ ∃ o, v = .int .i64 o ∧ decide (0 ≤ o) = l.any fun x => decide (3 < x)) := by
 refine does_of Tryz.func192 rfl rfl rfl (St.refl w) ?_
 refine c_seq ?_
 refine c_region ?_
 refine Rl ?_
 refine l_nil ?_
 refine c_seq ?_
 refine c_seq ?_
 refine c_region ?_
 refine Rl ?_
 refine RY l_n rfl ?_
 refine Rl ?_
 refine l_nil ?_
 refine c_block ?_
 refine c_loopk (σ := Nat) [4, 5, 8, 9, 10, 11, 12, 13, 14, 15, 16, 17, 18] (fun i => [(8, .int .i64 i)]) (fun i => i ≤ l.length ∧ ∀ j, j < i → ¬ 3 < l.getD j 0) (fun i => l.length - i) 0 ?_ ?_ ?_
 ·exact ⟨Nat.zero_le _, fun j hj => y_D⟩
 ·exact .cons rfl .nil
 ·rintro i y2 ⟨hi, hno⟩
  refine c_seq ?_
  refine c_region ?_
  refine Rl ?_
  refine l_nil ?_
  refine c_seq ?_
  refine KC (fun h1 h1n => ?_) (fun h1 h1n => ?_)
  ·refine c_skip ?_
   refine c_seq ?_
   refine c_block ?_
   refine c_seq ?_
   refine c_region ?_
   refine L_2 ?_
   refine l_nil ?_
   refine c_seq ?_
   obtain ⟨b, off, rfl, hr⟩ := hB.row (i := i) o_m
   refine c_region ?_
   iterate 3 refine Rl ?_
   refine RY (idx_slice1 i rfl rfl rfl rfl o_m) rfl ?_
   refine RZ (x_load rfl rfl (at_old (hr.int (i := i) o_m) y_z)) rfl ?_
   refine RZ (x_valV (A := []) (B := []) rfl call_147 rfl (fun w hw => wrong_fn _ w)) rfl ?_
   refine l_nil ?_
   refine KC (fun h2 h2n => ?_) (fun h2 h2n => ?_)
   ·refine c_seq ?_
    refine c_region ?_
    refine L_2 ?_
    refine l_nil ?_
    refine c_ret ?_
    exact E0 rfl ⟨rfl, _, rfl, by rw [any_at (i := i) o_m (by simpa using h2)]; simp⟩
   ·refine c_skip ?_
    refine c_region ?_
    refine RW (v := (.int .i64 ((i + 1 : Nat) : Int))) rfl rfl (congrArg _ (succ_law o_m)) ?_
    refine Rl ?_
    refine l_nil ?_
    exact ⟨i + 1, ⟨y_D, fun j hj => by
     rcases Nat.lt_or_ge j i with h9 | h9
     ·exact hno j h9
     ·obtain rfl : j = i := by omega
      simpa using h2⟩, y_D, .cons rfl .nil, a_g, fun _ h => h⟩
  ·refine c_exit rfl ?_
   refine c_seq ?_
   obtain rfl : l.length = i := by omega
   refine c_region ?_
   refine Rl ?_
   refine l_nil ?_
   refine c_ret ?_
   exact E0 rfl ⟨rfl, _, rfl, by rw [any_none hno]; rfl⟩
theorem contains_fn (a : Option Addr) (c : Nat) (l : List Int) (hc : l.length ≤ 1000000) (w : World) (hB : Ns w .u8 a l) :
  Does Tryz.prog 148 [.slice a l.length c, .func (.func 147) #[] #[]] w [] (fun v H => H = [] ∧ v = .bool (l.any fun x => decide (3 < x))) := by
 refine does_of Tryz.func148 rfl rfl rfl (St.refl w) ?_
 refine c_seq ?_
 refine c_region ?_
 refine Rl ?_
 refine l_nil ?_
 refine c_seq ?_
 refine c_region ?_
 refine L_2 ?_
 refine RX (x_call call_192 rfl (fun w hw => index_fn a c l hc w (hB.later0 hw))) rfl ?_
 rintro _ _ ⟨G7, ⟨rfl, o, rfl, ho⟩, rfl⟩
 refine L_2 ?_
 refine l_nil ?_
 refine c_ret ?_
 exact E0 rfl ⟨rfl, congrArg _ ho⟩
set_option maxHeartbeats 4000000 in
theorem dec_fn (b : Nat) (u : PU) (hu : u.Wf) (w : World) (hst : St w [b] [(b, blk (cU u) 178)] w) (a : Option Addr) (c : Nat) (l : List Int) (hby : Byts l) (hc : l.length ≤ c) (hB : Ns w .u8 a l) (hne : ∀ p, a = some p → p.block ≠ b) :
  Does Tryz.prog 85 [.pointer (some ⟨b, 0, none⟩), .slice a l.length c] w [b] (fun v H => v = .int .i64 (decE l) ∧ H = [(b, blk (cU (decTo u l)) 178)]) := by
 refine does_of Tryz.func85 rfl rfl rfl hst ?_
 refine c_seq ?_
 refine c_region ?_
 refine Rl ?_
 refine l_nil ?_
 refine c_seq ?_
 refine c_block ?_
 refine c_seq ?_
 refine c_region ?_
 iterate 3 refine Rl ?_
 refine l_nil ?_
 refine c_false rfl ?_
 refine c_seq ?_
 refine c_region ?_
 refine Rl ?_
 refine RY l_n rfl ?_
 refine L_2 ?_
 refine l_nil ?_
 refine KC (fun h1 h1n => ?_) (fun h1 h1n => ?_)
 ·refine c_seq ?_
  refine c_region ?_
  refine Rl ?_
  refine l_nil ?_
  refine c_ret ?_
  exact EV rfl (List.Sublist.refl _) ⟨congrArg _ (decE_len o_m), by rw [decTo_no (decE_len o_m) y_c]⟩
 ·refine c_skip ?_
  refine c_seq ?_
  have hl : l.length = 31408 := by omega
  obtain ⟨bb, off, rfl, hr⟩ := hB.row (i := 0) o_m
  have hab : bb ≠ b := hne _ rfl
  have b1 := hby.get 8356
  have b2 := hby.get 8363
  have b3 := hby.get 8364
  have b4 := hby.get 8365
  have b5' := hby.get 8366
  have b6 := hby.get 8367
  refine c_region ?_
  refine RX (x_alloc (l := cU zeroU) y_g) rfl ?_
  rintro _ _ ⟨b5, rfl, rfl⟩
  refine l_nil ?_
  refine c_seq ?_
  refine c_region ?_
  refine RLa ?_
  refine RW (v := (.slice (some ⟨b5, 0, none⟩) 8192 8192)) (cut_array1 0 8192 rfl rfl rfl rfl rfl rfl y_c y_c) rfl rfl ?_
  refine Rl ?_
  refine RZ (x_copyTo (l' := cU (z1 l)) (m := l.length) (ys := l.map (.int .u8)) 0 rfl rfl rfl rfl rfl (fun w hw => Src.row (s := 1) bb (off) l.length (c) (l.map (.int .u8)) y_c0 (row_old (hr) y_cg w hw)) (ones_int _ _) (by rw [nU_len z0_ln]; omega) (by rw [show min l.length 8192 = 8192 by omega]; exact p_1 hl)) rfl ?_
  try simp only [List.set_cons_zero, List.set_cons_succ]
  refine l_nil ?_
  refine c_seq ?_
  refine DR [] (pln [0, 2, 4, 6, 9]) ?_
  refine RDa ?_
  refine DW (v := (.slice (some ⟨b5, 8192, none⟩) 160 160)) rfl (cut_array1 0 160 rfl rfl rfl rfl rfl rfl y_c y_c) rfl rfl ?_
  refine RD ?_
  refine DW (v := (.slice (some ⟨bb, off + 8192, none⟩) 23216 (c - 8192))) rfl (cut_slice1 8192 l.length rfl rfl rfl rfl rfl rfl o_m o_m) rfl (by rw [cut1_on o_m, hl]) ?_
  refine DZ rfl (x_copyTo (l' := cU (z2 l)) (m := 23216) (ys := (l.drop 8192).map (.int .u8)) 0 rfl rfl rfl rfl rfl (fun w hw => Src.row (s := 1) bb (off + 8192) 23216 (c - 8192) ((l.drop 8192).map (.int .u8)) y_c0 (row_old (hr.dropK 8192) y_cg w hw)) (ones_int _ _) (by rw [nU_len (z1_ln hl)]; decide) (p_2 hl)) rfl n_h ?_
  try simp only [List.set_cons_zero, List.set_cons_succ]
  refine d_nil ?_
  refine c_seq ?_
  refine DR [] (pln [0, 2, 4, 6, 9]) ?_
  refine RDa ?_
  refine DW (v := (.slice (some ⟨b5, 8352, none⟩) 6 12)) rfl (cut_array1 0 6 rfl rfl rfl rfl rfl rfl y_c y_c) rfl rfl ?_
  refine RD ?_
  refine DW (v := (.slice (some ⟨bb, off + 8352, none⟩) 23056 (c - 8352))) rfl (cut_slice1 8352 l.length rfl rfl rfl rfl rfl rfl o_m o_m) rfl (by rw [cut1_on o_m, hl]) ?_
  refine DZ rfl (x_copyTo (l' := cU (z3 l)) (m := 23056) (ys := (l.drop 8352).map (.int .u8)) 0 rfl rfl rfl rfl rfl (fun w hw => Src.row (s := 1) bb (off + 8352) 23056 (c - 8352) ((l.drop 8352).map (.int .u8)) y_c0 (row_old (hr.dropK 8352) y_cg w hw)) (ones_int _ _) (by rw [nU_len (z2_ln hl)]; decide) (p_3 hl)) rfl n_h ?_
  try simp only [List.set_cons_zero, List.set_cons_succ]
  refine d_nil ?_
  refine c_seq ?_
  refine DR [] (pln [0, 2, 4, 6, 9]) ?_
  refine RDa ?_
  refine DW (v := (.slice (some ⟨b5, 8359, none⟩) 5 5)) rfl (cut_array1 7 12 rfl rfl rfl rfl rfl rfl y_c y_c) rfl rfl ?_
  refine RD ?_
  refine DW (v := (.slice (some ⟨bb, off + 8358, none⟩) 5 (c - 8358))) rfl (cut_slice1 8358 8363 rfl rfl rfl rfl rfl rfl o_m o_m) rfl (by rw [cut1_on o_m]) ?_
  refine DZ rfl (x_copyTo (l' := cU (z4 l)) (m := 5) (ys := ((l.drop 8358).take 5).map (.int .u8)) 0 rfl rfl rfl rfl rfl (fun w hw => Src.row (s := 1) bb (off + 8358) 5 (c - 8358) (((l.drop 8358).take 5).map (.int .u8)) y_c0 (row_old ((hr.dropK 8358).takeK 5) y_cg w hw)) (ones_int _ _) (by rw [nU_len (z3_ln hl)]; decide) (p_4 hl)) rfl n_h ?_
  try simp only [List.set_cons_zero, List.set_cons_succ]
  refine d_nil ?_
  refine c_seq ?_
  refine DR [4, 5, 6, 7, 8, 9, 10, 11] (pln [0, 2, 4, 6, 8, 10, 12, 14, 16, 18, 20, 22, 24, 27, 28, 31, 32, 35]) ?_
  refine RDa ?_
  refine DY rfl y_dP rfl ?_
  refine DL rfl rfl rfl (s_own m_m (at_4 hl)) rfl ?_
  refine DW rfl (l_conv rfl rfl rfl) rfl y_d ?_
  refine RD ?_
  refine DY rfl (idx_slice1 8363 rfl rfl rfl rfl o_m) rfl ?_
  refine DL rfl rfl rfl (s_old (hr.int (i := 8363) o_m) y_cg) rfl ?_
  refine DW rfl (l_conv rfl rfl rfl) rfl y_d ?_
  refine RD ?_
  refine DY rfl (idx_slice1 8364 rfl rfl rfl rfl o_m) rfl ?_
  refine DL rfl rfl rfl (s_old (hr.int (i := 8364) o_m) y_cg) rfl ?_
  refine DW rfl (l_conv rfl rfl rfl) rfl y_d ?_
  refine RDa ?_
  refine DZ rfl (x_storeTo (l' := cU ({ z4 l with line := l.getD 8356 0 })) 0 rfl rfl rfl rfl rfl rfl (by rw [nU_len (z4_ln hl)]; simp) (p_5a hl)) rfl n_h ?_
  try simp only [List.set_cons_zero, List.set_cons_succ]
  refine RDa ?_
  refine DZ rfl (x_storeTo (l' := cU ({ z4 l with line := l.getD 8356 0, dot := l.getD 8363 0 })) 0 rfl rfl rfl rfl rfl rfl (by rw [nU_len (u := { z4 l with line := l.getD 8356 0 }) ⟨(z4_ln hl).lV, (z4_ln hl).lO, (z4_ln hl).lR, (z4_ln hl).lP⟩]; simp) (p_5b hl)) rfl n_h ?_
  try simp only [List.set_cons_zero, List.set_cons_succ]
  refine RDa ?_
  refine DZ rfl (x_storeTo (l' := cU (z5 l)) 0 rfl rfl rfl rfl rfl rfl (by rw [nU_len (u := { z4 l with line := l.getD 8356 0, dot := l.getD 8363 0 }) ⟨(z4_ln hl).lV, (z4_ln hl).lO, (z4_ln hl).lR, (z4_ln hl).lP⟩]; simp) (p_5c hl)) rfl n_h ?_
  try simp only [List.set_cons_zero, List.set_cons_succ]
  refine d_nil ?_
  refine c_seq ?_
  refine DR [4, 5, 6, 7, 8, 10, 11, 12, 13] (pln [0, 2, 4, 6, 8, 10, 12, 14, 16, 18, 20, 22, 24, 26, 28, 31, 32, 35]) ?_
  refine RD ?_
  refine DY rfl (idx_slice1 8365 rfl rfl rfl rfl o_m) rfl ?_
  refine DL rfl rfl rfl (s_old (hr.int (i := 8365) o_m) y_cg) rfl ?_
  refine DW rfl (l_conv rfl rfl rfl) rfl y_d ?_
  refine RD ?_
  refine DY rfl (idx_slice1 8366 rfl rfl rfl rfl o_m) rfl ?_
  refine DL rfl rfl rfl (s_old (hr.int (i := 8366) o_m) y_cg) rfl ?_
  refine DW rfl (l_conv rfl rfl rfl) rfl y_d ?_
  refine DW rfl (shl_pos rfl rfl y_c) rfl y_d2 ?_
  refine DW (v := (.int .i64 (l.getD 8365 0 + 256 * l.getD 8366 0))) rfl rfl rfl (congrArg _ (by rw [Int.mul_comm (l.getD 8366 0)]; exact two_law b4 b5')) ?_
  refine RD ?_
  refine DY rfl (idx_slice1 8367 rfl rfl rfl rfl o_m) rfl ?_
  refine DL rfl rfl rfl (s_old (hr.int (i := 8367) o_m) y_cg) rfl ?_
  refine D_2 ?_
  refine DZ rfl (x_storeTo (l' := cU ({ z5 l with frames := l.getD 8365 0 + 256 * l.getD 8366 0 })) 0 rfl rfl rfl rfl rfl rfl (by rw [nU_len (z5_ln hl)]; simp) (p_6a hl)) rfl n_h ?_
  try simp only [List.set_cons_zero, List.set_cons_succ]
  refine RDa ?_
  refine DZ rfl (x_storeTo (l' := cU (z6 l)) 0 rfl rfl rfl rfl rfl rfl (by rw [nU_len (u := { z5 l with frames := l.getD 8365 0 + 256 * l.getD 8366 0 }) ⟨(z5_ln hl).lV, (z5_ln hl).lO, (z5_ln hl).lR, (z5_ln hl).lP⟩]; simp) (p_6b hl)) rfl n_h ?_
  try simp only [List.set_cons_zero, List.set_cons_succ]
  refine d_nil ?_
  refine c_seq ?_
  refine c_region ?_
  refine RLa ?_
  refine RY y_dP rfl ?_
  refine RZ (x_storeTo (l' := cU (z7 l)) 0 rfl rfl rfl rfl rfl rfl (by rw [nU_len (z6_ln hl)]; simp) (p_7 hl)) rfl ?_
  try simp only [List.set_cons_zero, List.set_cons_succ]
  refine l_nil ?_
  refine c_seq ?_
  refine c_region ?_
  refine Rl ?_
  refine l_nil ?_
  refine c_seq ?_
  refine c_seq ?_
  refine c_region ?_
  refine RLa ?_
  refine RZ (x_load rfl rfl (at_own m_m (at_line hl))) rfl ?_
  refine Rl ?_
  refine KL (fun h2 h2n => ?_) (fun h2 h2n => ?_)
  ·refine L_23 ?_
   refine l_nil ?_
   refine c_true rfl ?_
   refine c_seq ?_
   refine c_region ?_
   refine Rl ?_
   refine l_nil ?_
   refine c_ret ?_
   exact EV rfl (List.sublist_cons_self _ _) ⟨congrArg _ (decE_no hl (ok_1 o_m)), by rw [decTo_no (decE_no hl (ok_1 o_m)) y_c]⟩
  ·refine RLa ?_
   refine RZ (x_load rfl rfl (at_own m_m (at_dot hl))) rfl ?_
   refine L_2 ?_
   refine KL (fun h3 h3n => ?_) (fun h3 h3n => ?_)
   ·refine L_18 ?_
    refine l_nil ?_
    refine c_true rfl ?_
    refine c_seq ?_
    refine c_region ?_
    refine Rl ?_
    refine l_nil ?_
    refine c_ret ?_
    exact EV rfl (List.sublist_cons_self _ _) ⟨congrArg _ (decE_no hl (ok_2 o_m)), by rw [decTo_no (decE_no hl (ok_2 o_m)) y_c]⟩
   ·refine RLa ?_
    refine RY y_dU rfl ?_
    refine RZ (x_load rfl rfl (at_own m_m (at_1 hl))) rfl ?_
    refine RW (l_andn rfl rfl) rfl rfl ?_
    refine L_2 ?_
    refine KL (fun h4 h4n => ?_) (fun h4 h4n => ?_)
    ·refine L_11 ?_
     refine l_nil ?_
     refine c_true rfl ?_
     refine c_seq ?_
     refine c_region ?_
     refine Rl ?_
     refine l_nil ?_
     refine c_ret ?_
     exact EV rfl (List.sublist_cons_self _ _) ⟨congrArg _ (decE_no hl (ok_3 h4)), by rw [decTo_no (decE_no hl (ok_3 h4)) y_c]⟩
    ·refine Rl ?_
     refine RY (idx_slice1 8367 rfl rfl rfl rfl o_m) rfl ?_
     refine RZ (x_load rfl rfl (at_old (hr.int (i := 8367) o_m) y_cg)) rfl ?_
     refine L_2 ?_
     refine KL (fun h5 h5n => ?_) (fun h5 h5n => ?_)
     ·refine L_5 ?_
      refine l_nil ?_
      refine c_true rfl ?_
      refine c_seq ?_
      refine c_region ?_
      refine Rl ?_
      refine l_nil ?_
      refine c_ret ?_
      exact EV rfl (List.sublist_cons_self _ _) ⟨congrArg _ (decE_no hl (ok_4 o_m)), by rw [decTo_no (decE_no hl (ok_4 o_m)) y_c]⟩
     ·refine Rl ?_
      refine RW (v := (.slice (some ⟨bb, off + 8368, none⟩) (l.drop 8368).length (c - 8368))) (cut_slice1 8368 l.length rfl rfl rfl rfl rfl rfl o_m o_m) rfl (by rw [cut1_on o_m, List.length_drop]) ?_
      refine Rl ?_
      refine RLv call_148 (fun w hw => contains_fn (some ⟨bb, off + 8368, none⟩) (c - 8368) (l.drop 8368) y_bz w (Ns.of (row_old (hr.dropK 8368) y_cg w hw))) ?_
      refine Rl ?_
      refine l_nil ?_
      refine KC (fun h6 h6n => ?_) (fun h6 h6n => ?_)
      ·refine c_seq ?_
       refine c_region ?_
       refine Rl ?_
       refine l_nil ?_
       refine c_ret ?_
       exact EV rfl (List.sublist_cons_self _ _) ⟨congrArg _ (decE_no hl (ok_5 h6)), by rw [decTo_no (decE_no hl (ok_5 h6)) y_c]⟩
      ·refine c_skip ?_
       refine c_seq ?_
       refine c_seq ?_
       have hok := ok_6 o_m o_m h4 o_m h6
       refine c_region ?_
       refine Rl ?_
       refine l_nil ?_
       refine c_block ?_
       refine c_loop (σ := Nat) [7, 94, 95, 96, 97, 98, 99, 100, 101, 102, 103, 104, 105, 106, 107] (fun i => [(94, .int .i64 i)]) (fun i => [(b5, blk (cU (z8 l i)) 178), (b, blk (cU u) 178)]) (fun i => i ≤ 144) (fun i => 144 - i) 0 ?_ ?_ ?_ ?_
       ·exact Nat.zero_le _
       ·exact .cons rfl .nil
       ·exact fun _ h => h.as (by rw [p_80])
       ·rintro i y17 hi
        refine c_seq ?_
        refine c_region ?_
        refine Rl ?_
        refine l_nil ?_
        refine c_seq ?_
        refine KC (fun h7 h7n => ?_) (fun h7 h7n => ?_)
        ·refine c_skip ?_
         refine c_seq ?_
         refine c_block ?_
         refine c_seq ?_
         refine c_region ?_
         refine L_2 ?_
         refine l_nil ?_
         refine DR [] (pln [0, 2, 4, 6, 8, 10, 12, 14, 16, 19]) ?_
         refine D_2 ?_
         refine DY rfl (idx_array (s := 160) i rfl rfl rfl rfl o_m) rfl ?_
         refine DW (v := (.slice (some ⟨b5, 8369 + i * 160, none⟩) 160 160)) rfl (cut_array1 0 160 rfl rfl rfl rfl rfl rfl y_c y_c) rfl rfl ?_
         refine D_2 ?_
         refine DW rfl (l_mul rfl rfl) rfl y_d ?_
         refine DW rfl (l_add rfl rfl) rfl y_d ?_
         refine DW (v := (.slice (some ⟨bb, off + (8368 + i * 160), none⟩) (31408 - (8368 + i * 160)) (c - (8368 + i * 160)))) rfl (cut_slice1 (8368 + i * 160) l.length rfl rfl rfl rfl rfl rfl o_m o_m) rfl (by rw [cut1_on o_m, hl]) ?_
         refine DZ rfl (x_copyTo (l' := cU (z8 l (i + 1))) (m := 31408 - (8368 + i * 160)) (ys := (l.drop (8368 + i * 160)).map (.int .u8)) 0 rfl rfl rfl rfl rfl (fun w hw => Src.row (s := 1) bb (off + (8368 + i * 160)) (31408 - (8368 + i * 160)) (c - (8368 + i * 160)) ((l.drop (8368 + i * 160)).map (.int .u8)) y_c0 (row_old (hr.dropK (8368 + i * 160)) y_cg w hw)) (ones_int _ _) (by rw [nU_len (z8_ln hl o_m)]; omega) (by rw [show min (31408 - (8368 + i * 160)) 160 = 160 by omega]; exact p_8 hl o_m)) rfl n_h ?_
         simp only [List.cons_append, List.nil_append, List.set_cons_zero]
         refine d_nil ?_
         refine c_region ?_
         refine RW (v := (.int .i64 ((i + 1 : Nat) : Int))) rfl rfl (congrArg _ (succ_law o_m)) ?_
         refine Rl ?_
         refine l_nil ?_
         exact ⟨i + 1, y_D, y_D, .cons rfl .nil, a_g, fun _ h => h⟩
        ·refine c_exit rfl ?_
         refine c_seq ?_
         obtain rfl : i = 144 := by omega
         refine c_region ?_
         refine Rl ?_
         refine RZ (x_loadA rfl rfl y_dl (show ∀ w, St _ _ _ w → Row w b5 0 (cU (decU l)) from fun w hw => by have h9 := row_own m_m w hw; rw [z8_all hl] at h9; exact h9)) rfl ?_
         refine Rl ?_
         refine RZ (x_storeTo (l' := cU (decU l)) 1 rfl rfl rfl y_dl (cU_ones _) rfl (by rw [← z8_all hl, nU_len (z8_ln hl (Nat.le_refl _)), cU_len hu]; decide) (putL_all (by rw [← z8_all hl, nU_len (z8_ln hl (Nat.le_refl _)), cU_len hu]))) rfl ?_
         simp only [List.set_cons_zero, List.set_cons_succ]
         refine l_nil ?_
         refine c_seq ?_
         refine c_region ?_
         refine Rl ?_
         refine l_nil ?_
         refine c_ret ?_
         exact EV rfl (List.sublist_cons_self _ _) ⟨congrArg _ (decE_yes hl hok), by rw [decTo_0 (decE_yes hl hok)]⟩
end Go.Proofs.YtldehodcfajpjaaGreat
namespace Go.Proofs.YtldehodcfajpjaaGreat
open Go Go.VV Go.Proofs Go.RowKit
theorem clone_fn (b off c : Nat) (l : List Int) (hc : l.length ≤ 1000000) (w : World) (hB : Ns w .u8 (some ⟨b, off, none⟩) l) : Does Tryz.prog 84 [.slice (some ⟨b, off, none⟩) l.length c] w [] (fun v H => ∃ b5 c5 sp, v = .slice (some ⟨b5, 0, none⟩) l.length c5 ∧ l.length ≤ c5 ∧ H = [(b5, (blk (l.map (Value.int .u8) ++ sp) 5))]) := by
 refine does_of Tryz.func84 rfl rfl rfl (St.refl w) ?_
 refine ZDo ?_
 refine ZDh ?_
 refine ZA0 ?_
 rcases Nat.eq_zero_or_pos l.length with hz | hz
 ·refine ZAP ?_
  refine RX (x_slc0 rfl) rfl ?_
  rintro _ _ ⟨b5, rfl, rfl⟩
  refine Rl ?_
  refine RZ (x_appendZ rfl rfl hz rfl rfl (Nat.le_refl _)) rfl ?_
  refine ZAI ?_
  exact EV rfl (List.Sublist.refl _) ⟨b5, 0, [], by rw [hz], y_D, by rw [List.eq_nil_of_length_eq_zero hz]; rfl⟩
 ·refine ZAP ?_
  refine RX (x_slc0 rfl) rfl ?_
  rintro _ _ ⟨b5, rfl, rfl⟩
  refine Rl ?_
  obtain ⟨b0, o9, e9, hrow⟩ := hB.row (i := 0) hz
  cases e9
  refine RX (x_append (A := []) (G := [(b5, blk [] 5)]) (R := []) (v := .slice (some ⟨b5, 0, none⟩) 0 0) (n := 0) (xs := []) (m := l.length) (T := 5) (s := 1) (by_ := 1) (ys := l.map (Value.int .u8)) rfl rfl rfl rfl (.row b5 0 0 [] [] rfl rfl y_c (Nat.le_refl _)) (fun w hw => .row _ _ _ _ _ y_z (row_old hrow y_z w hw)) (ones_int _ _) o_m o_m) rfl ?_
  rintro v0 _ ⟨G0, hV0, _, rfl⟩
  obtain ⟨b1, c0, sp0, rfl, rfl, hc0, hle7, hm7⟩ := hV0.full o_m
  simp only [Nat.zero_add, List.nil_append, List.append_nil]
  refine ZAI ?_
  exact EV rfl (List.Sublist.refl _) ⟨b1, c0, sp0, rfl, y_D, rfl⟩
theorem equal_fn (a a2 : Option Addr) (c c2 : Nat) (la lb : List Int) (ha : la.length ≤ 1000000) (hb : lb.length ≤ 1000000) (w : World) (hA : Ns w .u8 a la) (hB : Ns w .u8 a2 lb) : Does Tryz.prog 86 [.slice a la.length c, .slice a2 lb.length c2] w [] (fun v H => H = [] ∧ v = .bool (decide (la = lb))) := by
 refine does_of Tryz.func86 rfl rfl rfl (St.refl w) ?_
 refine ZDo ?_
 refine ZCU ?_
 refine Rl ?_
 refine ZCU ?_
 refine ZAB ?_
 refine KC (fun q0 q0n => ?_) (fun q0 q0n => ?_)
 ·refine ZAY ?_
  exact E0 rfl ⟨rfl, (congrArg Value.bool (decide_eq_false (by rintro rfl; omega)).symm)⟩
 ·refine ZAx ?_
  refine ZA1 ?_
  refine ZCU ?_
  refine ZBO ?_
  refine c_loop (σ := Nat) [4, 5, 13, 14, 15, 16, 17, 18, 19, 20, 21, 22, 23, 24, 25] (fun i => [(13, .int .i64 i)]) (fun _ => []) (fun i => i ≤ la.length ∧ ∀ j, j < i → la.getD j 0 = lb.getD j 0) (fun i => la.length - i) 0 ?_ ?_ ?_ ?_
  ·exact ⟨Nat.zero_le _, fun j hj => y_D⟩
  ·exact .cons rfl .nil
  ·exact fun _ h => h
  ·rintro i y4 ⟨hi, hj⟩
   refine ZCI ?_
   refine KC (fun q1 q1n => ?_) (fun q1 q1n => ?_)
   ·refine ZDp ?_
    have hl9 : la.length = lb.length := by omega
    obtain ⟨ba, oa, rfl, hra⟩ := hA.row (i := i) o_m
    obtain ⟨bb, ob, rfl, hrb⟩ := hB.row (i := i) o_m
    refine ZCB ?_
    refine ZA0 ?_
    refine DR [4, 5, 6, 7] (pln [0, 2, 4, 6, 8, 10, 12, 14, 16]) ?_
    refine D_2 ?_
    refine DY rfl (idx_slice1 i rfl rfl rfl rfl o_m) rfl ?_
    refine DL rfl rfl rfl (s_old (hra _ _ (map_at o_m)) y_z) rfl ?_
    refine D_2 ?_
    refine DY rfl (idx_slice1 i rfl rfl rfl rfl o_m) rfl ?_
    refine DL rfl rfl rfl (s_old (hrb _ _ (map_at o_m)) y_z) rfl ?_
    refine ZC9 ?_
    refine KC (fun q2 q2n => ?_) (fun q2 q2n => ?_)
    ·refine ZAY ?_
     exact E0 rfl ⟨rfl, (congrArg Value.bool (decide_eq_false (by rintro rfl; simp at q2)).symm)⟩
    ·refine ZAx ?_
     refine ZC2 ?_
     exact ⟨i + 1, ⟨y_D, fun j hj' => y_d9⟩, y_D, .cons rfl .nil, a_g, fun _ h => h⟩
   ·refine ZBa ?_
    refine ZAY ?_
    exact E0 rfl ⟨rfl, (congrArg Value.bool (decide_eq_true (List.ext_getElem o_m (fun j h8 h9 => by have := hj j o_m; simpa [List.getD_eq_getElem?_getD, List.getElem?_eq_getElem h8, List.getElem?_eq_getElem h9] using this))).symm)⟩
theorem copiedM_fn (A : Ad) (acc : Value) (m : Mm) (h : m.Wf) (hrl : m.ram.length ≤ 200000) (hon : ones [acc, A.plan, A.tab] = true) (w : World) (hm : Row w A.mb 0 (cMm A acc m)) (hu : Row w A.ub 0 (cU m.u)) (hr : Row w A.rb 0 (m.ram.map (Value.int .u8))) : Does Tryz.prog 83 [.pointer (some ⟨A.mb, 0, none⟩)] w [] (fun v H => ∃ b3 b12 bc cc sp, v = .pointer (some ⟨b3, 0, none⟩) ∧ m.ram.length ≤ cc ∧ H = [(b12, blk (cU (decTo zeroU (encU m.u))) 178), (bc, blk (m.ram.map (Value.int .u8) ++ sp) 5), (b3, blk (cMm ({ A with mb := b3, ub := b12, rb := bc, rc := cc, rs := sp } : Ad) (.slice none 0 0) m) 137)]) := by
 refine does_of Tryz.func83 rfl rfl rfl (St.refl w) ?_
 refine ZAa ?_
 refine ZAU ?_
 refine RZ (x_loadA rfl rfl (by rw [cMm_len h.ln]; rfl) (row_old hm y_z)) rfl ?_
 refine RX (x_alloc (l := zMach) y_g) rfl ?_
 rintro _ _ ⟨b3, rfl, rfl⟩
 refine RZ (x_storeTo (l' := cMm A acc m) 0 rfl rfl rfl (by rw [cMm_len h.ln]; rfl) (ones_cMm hon) rfl (by rw [cMm_len h.ln, zMach_len]; exact Nat.le_of_ble_eq_true rfl) (putL_all (by rw [cMm_len h.ln, zMach_len]))) rfl ?_
 refine ZBb ?_
 refine ZA6 ?_
 refine RZ (x_load rfl rfl (at_old (hm _ _ (get_mid h.ln (j := 15) rfl)) y_z)) rfl ?_
 refine RX (x_call call_84 rfl (fun w hw => clone_fn A.rb 0 A.rc m.ram o_m w (Ns.of (row_old hr y_z w hw)))) rfl ?_
 rintro _ _ ⟨_, ⟨bc, cc, sp, rfl, hcc, rfl⟩, rfl⟩
 refine ZAC ?_
 refine RX (x_call call_42 rfl (fun w hw => new_fn w)) rfl ?_
 rintro _ _ ⟨_, ⟨b12, rfl, rfl⟩, rfl⟩
 refine ZAC ?_
 refine RLa ?_
 refine RZ (x_storeTo (l' := cMm { A with rb := bc, rc := cc, rs := sp } acc m) 2 rfl rfl rfl rfl rfl rfl y_y (putM_ram h.ln bc cc sp)) rfl ?_
 refine ZAC ?_
 refine RLa ?_
 refine RZ (x_storeTo (l' := cMm { A with rb := bc, rc := cc, rs := sp, ub := b12 } acc m) 2 rfl rfl rfl rfl rfl rfl y_y (putM_unit h.ln b12)) rfl ?_
 refine ZAC ?_
 refine RLa ?_
 refine RZ (x_storeTo (l' := cMm { A with rb := bc, rc := cc, rs := sp, ub := b12 } (.slice none 0 0) m) 2 rfl rfl rfl rfl rfl rfl y_y (putM_acc h.ln _)) rfl ?_
 refine ZBb ?_
 refine ZA0 ?_
 refine DR [2, 3, 4, 5, 6] (pln [0, 2, 4, 6, 8, 10, 13, 15]) ?_
 refine RDa ?_
 refine DL rfl rfl rfl (s_own (v := .pointer (some ⟨b12, 0, none⟩)) m_m (get_mid (A := { A with rb := bc, rc := cc, rs := sp, ub := b12 }) (m := m) h.ln (j := 14) rfl)) rfl ?_
 refine D_3 ?_
 refine DL rfl rfl rfl (s_old (hm _ _ (get_mid h.ln (j := 14) rfl)) y_z) rfl ?_
 refine DX rfl (x_call call_79 rfl (fun w hw => enc_fn A.ub m.u h.u.wf w (row_old hu y_z w hw))) rfl (by intro _ _ _ hK; obtain ⟨G22, _, rfl⟩ := hK; exact fun x hx => List.mem_append_right _ hx) ?_
 rintro v0 _ ⟨G0, hV0, rfl⟩
 have hul := encU_len h.u.wf
 obtain ⟨b0, c0, sp0, rfl, rfl, hc0, hle22, hm22⟩ := hV0.full o_m
 refine ZAC ?_
 refine DX rfl (x_callMA (F := [(b0, _)]) (A := [(b12, blk (cU zeroU) 178)]) (G := [(bc, blk (m.ram.map (Value.int .u8) ++ sp) 5), (b3, blk (cMm ({ A with rb := bc, rc := cc, rs := sp, ub := b12 } : Ad) (.slice none 0 0) m) 137)]) (R := fun v H => v = .int .i64 (decE (encU m.u)) ∧ H = [(b12, blk (cU (decTo zeroU (encU m.u))) 178)]) call_85 rfl (fun w hw hw2 => dec_fn b12 zeroU zeroU_wf w hw (some ⟨b0, 0, none⟩) c0 (encU m.u) (enc_byts h.u.wf) hle22 (Ns.of (Row.left (row_own (b := b0) (List.mem_append_right _ (.head _)) w hw2))) (fun p hp => by cases hp; exact fun e => St.apartT hw2 (show _ ∈ [_] from List.mem_singleton.2 e)))) rfl n_h ?_
 refine ZCN ?_
 refine ZAC ?_
 refine ZEb ?_
 refine ZAY ?_
 exact EV rfl (.cons _ (List.Sublist.refl _)) ⟨b3, b12, bc, cc, sp, rfl, hcc, rfl⟩
set_option maxHeartbeats 4000000 in
theorem decodeM_fn (A : Ad) (aa : Option Addr) (an ac : Nat) (m : Mm) (h : m.Wf) (hr : m.cpu.r.Ok) (hrl : m.ram.length ≤ 200000) (hon : ones [(.slice aa an ac), A.plan, A.tab] = true) (a : Option Addr) (c : Nat) (l : List Int) (hby : Byts l) (hlm : l.length ≤ 900000) (hlc : l.length ≤ c) (ms : List Nat) (w : World) (hst : St w ms [(A.ub, blk (cU m.u) 178), (A.mb, blk (cMm A (.slice aa an ac) m) 137), (A.rb, blk (m.ram.map (Value.int .u8) ++ A.rs) 5)] w) (hB : Ns w .u8 a l) (hpn : ∀ p, a = some p → p.block ∉ ms) : Does Tryz.prog 37 [.pointer (some ⟨A.mb, 0, none⟩), .slice a l.length c] w ms (fun v H => v = .int .i64 (decAE m l) ∧ ∃ A' aa' an' ac', Ad.Kept A A' ∧ H = [(A.ub, blk (cU (decAM m l).u) 178), (A.mb, blk (cMm A' (.slice aa' an' ac') (decAM m l)) 137), (A'.rb, blk ((decAM m l).ram.map (Value.int .u8) ++ A'.rs) 5)]) := by
 have hea := encA_len h
 have hon0 : ones [.slice none 0 0, A.plan, A.tab] = true := hon
 refine does_of Tryz.func37 rfl rfl rfl hst ?_
 refine ZDo ?_
 refine ZDh ?_
 refine ZAV ?_
 refine RX (x_callT (F := [(A.ub, blk (cU m.u) 178)]) (A := [(A.mb, blk (cMm A (.slice aa an ac) m) 137), (A.rb, blk (m.ram.map (Value.int .u8) ++ A.rs) 5)]) (R := fun v H => ∃ b c sp, v = .slice (some ⟨b, 0, none⟩) (encA m).length c ∧ (encA m).length ≤ c ∧ H = (b, blk ((encA m).map (Value.int .u8) ++ sp) 5) :: [(A.mb, blk (cMm A (.slice aa an ac) m) 137), (A.rb, blk (m.ram.map (Value.int .u8) ++ A.rs) 5)]) call_31 rfl (fun w hw => encodeM_fn A (.slice aa an ac) m h hr hrl _ w (St.lentV hw) (row_own (b := A.ub) (List.mem_append_right _ (.head _)) w hw) (St.apartT (G := []) hw))) rfl ?_
 rintro _ _ ⟨_, ⟨b0, c0, sp0, rfl, hle12, rfl⟩, rfl⟩
 refine l_heap (H' := [(A.ub, blk (cU m.u) 178), (A.mb, blk (cMm A (.slice aa an ac) m) 137), (A.rb, blk (m.ram.map (Value.int .u8) ++ A.rs) 5)]) (fun w hw => hw.sub (.cons_cons _ (.cons _ (List.Sublist.refl _)))) ?_
 refine ZCU ?_
 refine ZAB ?_
 refine ZA1 ?_
 refine ZCU ?_
 refine ZAE ?_
 refine KC (fun q0 q0n => ?_) (fun q0 q0n => ?_)
 ·refine ZAY ?_
  have e9 := decAE_size (m := m) (l := l) o_m
  exact EV rfl (List.Sublist.refl _) ⟨congrArg _ e9, A, aa, an, ac, ⟨rfl, rfl, rfl, rfl, rfl, rfl, rfl⟩, by rw [decAM_no e9 y_c]⟩
 ·refine ZAx ?_
  refine ZA0 ?_
  have hln : l.length = (encA m).length := by omega
  refine ZAZ ?_
  refine RX (x_call call_83 rfl (fun w hw => copiedM_fn A (.slice aa an ac) m h hrl hon w (row_own (b := A.mb) (.tail _ (.head _)) w hw) (row_own (b := A.ub) (.head _) w hw) (Row.left (row_own (b := A.rb) (.tail _ (.tail _ (.head _))) w hw)))) rfl ?_
  rintro _ _ ⟨_, ⟨b1, b0, bc, cc, sp, rfl, hcc, rfl⟩, rfl⟩
  refine ZAC ?_
  refine ZEl ?_
  obtain ⟨ba, oa, rfl, hrowa⟩ := hB.row (i := 0) o_m
  refine RX (x_call call_84 rfl (fun w hw => clone_fn ba oa c l o_m w (hB.later hpn hw))) rfl ?_
  rintro _ _ ⟨_, ⟨b2, cx1, sp1, rfl, hc0, rfl⟩, rfl⟩
  refine ZAC ?_
  refine RY (light_struct (l := [(.slice (some ⟨b2, 0, none⟩) l.length cx1), .bool true]) rfl rfl rfl rfl) rfl ?_
  refine RX (x_box (l := [(.slice (some ⟨b2, 0, none⟩) l.length cx1), .bool true]) rfl rfl) rfl ?_
  rintro _ _ ⟨b3, rfl, rfl⟩
  refine ZEm ?_
  refine c_heap (L' := [(b0, blk (cU (decTo zeroU (encU m.u))) 178), (A.ub, blk (cU m.u) 178), (A.mb, blk (cMm A (.slice aa an ac) m) 137), (A.rb, blk (m.ram.map (Value.int .u8) ++ A.rs) 5)] ++ ((b3, blk [(.slice (some ⟨b2, 0, none⟩) l.length cx1), .bool true] 169) :: (([(b2, blk (l.map (Value.int .u8) ++ sp1) 5)] ++ [(b1, blk (cMm ({ A with mb := b1, ub := b0, rb := bc, rc := cc, rs := sp } : Ad) (.slice none 0 0) m) 137)]) ++ [(bc, blk (m.ram.map (Value.int .u8) ++ sp) 5)]))) (fun w hw => St.perm_ix 8 [2, 5, 6, 7, 0, 1, 4, 3] y_c rfl rfl hw) ?_
  refine ZAo ?_
  refine RX (x_callT (F := [(b0, blk (cU (decTo zeroU (encU m.u))) 178), (A.ub, blk (cU m.u) 178), (A.mb, blk (cMm A (.slice aa an ac) m) 137), (A.rb, blk (m.ram.map (Value.int .u8) ++ A.rs) 5)]) (A := (b3, blk [(.slice (some ⟨b2, 0, none⟩) l.length cx1), .bool true] 169) :: (([(b2, blk (l.map (Value.int .u8) ++ sp1) 5)] ++ [(b1, blk (cMm ({ A with mb := b1, ub := b0, rb := bc, rc := cc, rs := sp } : Ad) (.slice none 0 0) m) 137)]) ++ [(bc, blk (m.ram.map (Value.int .u8) ++ sp) 5)])) (R := fun v H => v = .tuple #[] ∧ ∃ va' Gl', LineB 5 true va' (l.drop (8482 + m.ram.length)) Gl' ∧ H = (b3, blk [va', .bool true] 169) :: ((Gl' ++ [(b1, blk (cMm ({ A with mb := b1, ub := b0, rb := bc, rc := cc, rs := sp } : Ad) (.slice none 0 0) (decFu m l)) 137)]) ++ [(bc, blk ((decFu m l).ram.map (Value.int .u8) ++ sp) 5)])) call_78 rfl (fun w hw => (throughL_fn true b3 b1 bc m.ram.length cc hrl (.slice (some ⟨b2, 0, none⟩) l.length cx1) [(b2, blk (l.map (Value.int .u8) ++ sp1) 5)] (cMm ({ A with mb := b1, ub := b0, rb := bc, rc := cc, rs := sp } : Ad) (.slice none 0 0) m, l) ⟨b2, 0, cx1, _, rfl, hc0, rfl, fun j v hv => by rw [Nat.zero_add]; exact get_left hv⟩ ⟨typed_cMm h hr, ⟨hby, fun _ => (show 8482 + m.ram.length ≤ l.length by omega), (show l.length + (8482 + m.ram.length) ≤ 1000000 by omega)⟩⟩ (m.ram.map (Value.int .u8) ++ sp) (fit_ram h sp) (get_mid (A := ({ A with mb := b1, ub := b0, rb := bc, rc := cc, rs := sp } : Ad)) h.ln (j := 15) rfl) _ w (St.lentV hw)).mono fun v H ⟨e1, va', Gl', e2, e3⟩ => ⟨e1, va', Gl', (by rw [passM_dec l hby h.ln o_m, ram_in sp o_m] at e2; exact e2), (by rw [passM_dec l hby h.ln o_m, ram_in sp o_m, cMm_decA h hln] at e3; exact e3)⟩)) rfl ?_
  rintro _ _ ⟨_, ⟨rfl, va0, G0, hV0, rfl⟩, rfl⟩
  obtain ⟨cb, off, c2, all, rfl, hle23, rfl, hall⟩ := hV0.read
  refine l_heap (H' := [(b0, blk (cU (decTo zeroU (encU m.u))) 178), (A.ub, blk (cU m.u) 178), (A.mb, blk (cMm A (.slice aa an ac) m) 137), (A.rb, blk (m.ram.map (Value.int .u8) ++ A.rs) 5), (b3, blk [(.slice (some ⟨cb, off, none⟩) (l.drop (8482 + m.ram.length)).length c2), .bool true] 169), (cb, blk all 5), (b1, blk (cMm ({ A with mb := b1, ub := b0, rb := bc, rc := cc, rs := sp } : Ad) (.slice none 0 0) (decFu m l)) 137), (bc, blk ((decFu m l).ram.map (Value.int .u8) ++ sp) 5)]) (fun _ h => h) ?_
  refine ZAb ?_
  refine ZCc ?_
  refine DR [4, 5, 6, 7] (pln [0, 2, 4, 6, 8, 10, 12, 14, 17, 18, 20, 22, 26, 25, 29, 30, 32]) ?_
  refine D_3 ?_
  have hln9 := (decM_wf h hby (show 8482 ≤ l.length by omega)).ln
  have hln1 : MLn (decFu m l) := ⟨hln9.bd, hln9.work, hln9.high⟩
  refine DL rfl rfl rfl (s_own (v := .pointer (some ⟨b0, 0, none⟩)) m_m (get_mid (A := ({ A with mb := b1, ub := b0, rb := bc, rc := cc, rs := sp } : Ad)) (m := (decFu m l)) (acc := (.slice none 0 0)) hln1 (j := 14) rfl)) rfl ?_
  refine D_3 ?_
  refine DL rfl rfl rfl (s_own (v := (.slice (some ⟨cb, off, none⟩) (l.drop (8482 + m.ram.length)).length c2)) m_m rfl) rfl ?_
  refine DX rfl (x_callMA (F := []) (A := [(b0, blk (cU (decTo zeroU (encU m.u))) 178)]) (G := [(A.ub, blk (cU m.u) 178), (A.mb, blk (cMm A (.slice aa an ac) m) 137), (A.rb, blk (m.ram.map (Value.int .u8) ++ A.rs) 5), (b3, blk [(.slice (some ⟨cb, off, none⟩) (l.drop (8482 + m.ram.length)).length c2), .bool true] 169), (cb, blk all 5), (b1, blk (cMm ({ A with mb := b1, ub := b0, rb := bc, rc := cc, rs := sp } : Ad) (.slice none 0 0) (decFu m l)) 137), (bc, blk ((decFu m l).ram.map (Value.int .u8) ++ sp) 5)]) (R := fun v H => v = .int .i64 (decE (l.drop (8482 + m.ram.length))) ∧ H = [(b0, blk (cU (decTo (decTo zeroU (encU m.u)) (l.drop (8482 + m.ram.length)))) 178)]) call_85 rfl (fun w hw hw2 => dec_fn b0 (decTo zeroU (encU m.u)) (decTo_wf zeroU_wf (enc_byts h.u.wf)) w hw (some ⟨cb, off, none⟩) c2 (l.drop (8482 + m.ram.length)) (byts_drop hby _) hle23 (Ns.of (row_part (row_own (b := cb) (List.mem_append_right _ (.tail _ (.tail _ (.tail _ (.tail _ (.head _)))))) w hw2) hall)) (fun p hp => by cases hp; exact fun e => St.apartT (A := [(b0, blk (cU (decTo zeroU (encU m.u))) 178)]) (x := (cb, blk all 5)) (G := _) (St.perm_ix 8 [0, 5, 1, 2, 3, 4, 6, 7] y_c rfl rfl hw2) (show _ ∈ [_] from List.mem_singleton.2 e)))) rfl n_h ?_
  refine ZCN ?_
  refine d_heap (H' := [(b0, blk (cU (decTo (decTo zeroU (encU m.u)) (l.drop (8482 + m.ram.length)))) 178), (A.ub, blk (cU m.u) 178), (A.mb, blk (cMm A (.slice aa an ac) m) 137), (A.rb, blk (m.ram.map (Value.int .u8) ++ A.rs) 5), (b3, blk [(.slice (some ⟨cb, off, none⟩) (l.drop (8482 + m.ram.length)).length c2), .bool true] 169), (cb, blk all 5), (b1, blk (cMm ({ A with mb := b1, ub := b0, rb := bc, rc := cc, rs := sp } : Ad) (.slice none 0 0) (decFu m l)) 137), (bc, blk ((decFu m l).ram.map (Value.int .u8) ++ sp) 5)]) (fun _ h => h) ?_
  refine RD ?_
  refine KE (fun q1 q1n => ?_) (fun q1 q1n => ?_)
  ·refine D_2 ?_
   refine d_passH rfl rfl rfl ?_
   refine d_passH rfl rfl rfl ?_
   refine ZCz ?_
   refine ZDu ?_
   refine ZAY ?_
   have e9 := decAE_unit (m := m) (l := l) hln y_bb
   exact EV rfl (.cons _ (.cons_cons _ (.cons_cons _ (.cons_cons _ (List.nil_sublist _))))) ⟨congrArg _ e9, A, aa, an, ac, ⟨rfl, rfl, rfl, rfl, rfl, rfl, rfl⟩, by rw [decAM_no e9 y_c]⟩
  ·refine D_2 ?_
   have hd0 : decE (l.drop (8482 + m.ram.length)) = 0 := by simpa using q1
   have e39 : decTo (decTo zeroU (encU m.u)) (l.drop (8482 + m.ram.length)) = (decFu m l).u := decTo_0 hd0.symm
   rw [e39]
   have hw1 : (decFu m l).Wf := decFu_wf h hby hln hd0
   have hr1 : (decFu m l).cpu.r.Ok := decFu_regs hby
   have hl1 : (decFu m l).ram.length = m.ram.length := dec_ram_len h hln
   refine DX rfl (x_callT (F := [(b0, blk (cU (decFu m l).u) 178), (A.ub, blk (cU m.u) 178), (A.mb, blk (cMm A (.slice aa an ac) m) 137), (A.rb, blk (m.ram.map (Value.int .u8) ++ A.rs) 5), (b3, blk [(.slice (some ⟨cb, off, none⟩) (l.drop (8482 + m.ram.length)).length c2), .bool true] 169), (cb, blk all 5)]) (A := [(b1, blk (cMm ({ A with mb := b1, ub := b0, rb := bc, rc := cc, rs := sp } : Ad) (.slice none 0 0) (decFu m l)) 137), (bc, blk ((decFu m l).ram.map (Value.int .u8) ++ sp) 5)]) (R := fun v H => ∃ b9 c9 s9, v = .slice (some ⟨b9, 0, none⟩) (encA (decFu m l)).length c9 ∧ (encA (decFu m l)).length ≤ c9 ∧ H = (b9, blk ((encA (decFu m l)).map (Value.int .u8) ++ s9) 5) :: [(b1, blk (cMm ({ A with mb := b1, ub := b0, rb := bc, rc := cc, rs := sp } : Ad) (.slice none 0 0) (decFu m l)) 137), (bc, blk ((decFu m l).ram.map (Value.int .u8) ++ sp) 5)]) call_31 rfl (fun w hw => encodeM_fn ({ A with mb := b1, ub := b0, rb := bc, rc := cc, rs := sp } : Ad) (.slice none 0 0) (decFu m l) hw1 hr1 o_m _ w (St.lentV hw) (row_own (b := b0) (List.mem_append_right _ (.head _)) w hw) (St.apartT (A := [(b1, blk (cMm ({ A with mb := b1, ub := b0, rb := bc, rc := cc, rs := sp } : Ad) (.slice none 0 0) (decFu m l)) 137), (bc, blk ((decFu m l).ram.map (Value.int .u8) ++ sp) 5)]) (x := (b0, blk (cU (decFu m l).u) 178)) hw))) rfl n_h ?_
   rintro _ _ ⟨_, ⟨b4, c3, sp2, rfl, hle39, rfl⟩, rfl⟩
   refine ZAC ?_
   refine DZ rfl (x_val call_86 rfl (fun w hw => equal_fn _ _ c3 c (encA (decFu m l)) l (by rw [encA_len hw1]; omega) o_m w (Ns.of (Row.left (row_own (b := b4) m_m w hw))) (hB.later hpn hw))) rfl n_h ?_
   refine ZCz ?_
   refine KC (fun q2 q2n => ?_) (fun q2 q2n => ?_)
   ·refine ZAY ?_
    have e9 := decAE_other (m := m) (l := l) hln (by simpa using q2)
    exact EV rfl (.cons _ (.cons_cons _ (.cons_cons _ (.cons_cons _ (List.nil_sublist _))))) ⟨congrArg _ e9, A, aa, an, ac, ⟨rfl, rfl, rfl, rfl, rfl, rfl, rfl⟩, by rw [decAM_no e9 y_c]⟩
   ·refine ZAx ?_
    refine ZA6 ?_
    refine RZ (x_load rfl rfl (at_own (v := .pointer (some ⟨A.ub, 0, none⟩)) m_m (get_mid (A := A) (m := m) (acc := (.slice aa an ac)) h.ln (j := 14) rfl))) rfl ?_
    refine ZAB ?_
    refine ZBl ?_
    refine RZ (x_load rfl rfl (at_own (v := (.slice (some ⟨cb, off, none⟩) (l.drop (8482 + m.ram.length)).length c2)) m_m rfl)) rfl ?_
    refine l_heap (H' := [(A.ub, blk (cU m.u) 178)] ++ ([(cb, blk all 5), (b0, blk (cU (decFu m l).u) 178), (A.mb, blk (cMm A (.slice aa an ac) m) 137), (b3, blk [(.slice (some ⟨cb, off, none⟩) (l.drop (8482 + m.ram.length)).length c2), .bool true] 169), (b4, blk ((encA (decFu m l)).map (Value.int .u8) ++ sp2) 5), (b1, blk (cMm ({ A with mb := b1, ub := b0, rb := bc, rc := cc, rs := sp } : Ad) (.slice none 0 0) (decFu m l)) 137), (A.rb, blk (m.ram.map (Value.int .u8) ++ A.rs) 5), (bc, blk ((decFu m l).ram.map (Value.int .u8) ++ sp) 5)])) (fun w hw => St.perm_ix 9 [1, 5, 0, 2, 4, 6, 7, 3, 8] y_c rfl rfl hw) ?_
    refine RX (x_callMA (F := []) (A := [(A.ub, blk (cU m.u) 178)]) (G := [(cb, blk all 5), (b0, blk (cU (decFu m l).u) 178), (A.mb, blk (cMm A (.slice aa an ac) m) 137), (b3, blk [(.slice (some ⟨cb, off, none⟩) (l.drop (8482 + m.ram.length)).length c2), .bool true] 169), (b4, _), (b1, blk (cMm ({ A with mb := b1, ub := b0, rb := bc, rc := cc, rs := sp } : Ad) (.slice none 0 0) (decFu m l)) 137), (A.rb, blk (m.ram.map (Value.int .u8) ++ A.rs) 5), (bc, blk ((decFu m l).ram.map (Value.int .u8) ++ sp) 5)]) (R := fun v H => v = .int .i64 (decE (l.drop (8482 + m.ram.length))) ∧ H = [(A.ub, blk (cU (decTo m.u (l.drop (8482 + m.ram.length)))) 178)]) call_85 rfl (fun w hw hw2 => dec_fn A.ub m.u h.u.wf w hw (some ⟨cb, off, none⟩) c2 (l.drop (8482 + m.ram.length)) (byts_drop hby _) hle23 (Ns.of (row_part (row_own (b := cb) (List.mem_append_right _ (.head _)) w hw2) hall)) (fun p hp => by cases hp; exact fun e => St.apartT (A := [(A.ub, blk (cU m.u) 178)]) (x := (cb, blk all 5)) (G := _) hw2 (show _ ∈ [_] from List.mem_singleton.2 e)))) rfl ?_
    refine ZCN ?_
    have e53 : decTo m.u (l.drop (8482 + m.ram.length)) = (decFu m l).u := decTo_0 hd0.symm
    rw [e53]
    refine ZBb ?_
    refine ZAA ?_
    refine ZBQ ?_
    refine RZ (x_loadA rfl rfl (by rw [cMm_len hw1.ln]; rfl) (row_own (b := b1) (l := cMm ({ A with mb := b1, ub := b0, rb := bc, rc := cc, rs := sp } : Ad) (.slice none 0 0) (decFu m l)) m_m)) rfl ?_
    refine Rl ?_
    refine RZ (x_storeTo (l' := cMm ({ A with mb := b1, ub := b0, rb := bc, rc := cc, rs := sp } : Ad) (.slice none 0 0) (decFu m l)) 3 rfl rfl rfl (by rw [cMm_len hw1.ln]; rfl) (ones_cMm (A := ({ A with mb := b1, ub := b0, rb := bc, rc := cc, rs := sp } : Ad)) hon0) rfl (by rw [cMm_len h.ln, cMm_len hw1.ln]; exact Nat.le_of_ble_eq_true rfl) (putL_all (by rw [cMm_len h.ln, cMm_len hw1.ln]))) rfl ?_
    refine ZBb ?_
    refine ZBl ?_
    refine RZ (x_storeTo (l' := cMm ({ A with rb := bc, rc := cc, rs := sp } : Ad) (.slice none 0 0) (decFu m l)) 3 rfl rfl rfl rfl rfl rfl (by rw [cMm_len hw1.ln]; exact Nat.le_of_ble_eq_true rfl) (putM_unit hw1.ln A.ub)) rfl ?_
    refine ZBb ?_
    refine ZAY ?_
    have e9 := decAE_fine (m := m) (l := l) hln hd0 (by simpa using q2)
    exact EV rfl (.cons_cons _ (.cons _ (.cons _ (.cons_cons _ (.cons _ (.cons _ (.cons _ (.cons _ (List.Sublist.refl _))))))))) ⟨congrArg _ e9, ({ A with rb := bc, rc := cc, rs := sp } : Ad), none, 0, 0, ⟨rfl, rfl, rfl, rfl, rfl, rfl, rfl⟩, by rw [decAM_yes e9]; rfl⟩
theorem decodeL {pa : Option Addr} {n pc : Nat} (q : MA) (hq : q.Ok pa n pc) (m : Mm) (h : m.Wf) (hr : m.cpu.r.Ok) (hrl : m.ram.length ≤ 200000) (a : Option Addr) (c : Nat) (l : List Int) (hby : Byts l) (hlm : l.length ≤ 900000) (hlc : l.length ≤ c) (ms : List Nat) (w : World) (hst : St w ms (hM q m) w) (hB : Ns w .u8 a l) (hpn : ∀ p, a = some p → p.block ∉ (hM q m).map (·.1)) :
  Does Tryz.prog 37 [pM q, .slice a l.length c] w ms (fun v H => v = .int .i64 (decAE m l) ∧ ∃ A' va, (MA.mk A' q.tb q.oT va).Ok pa n pc ∧ A'.mb = q.A.mb ∧ H = hM ⟨A', q.tb, q.oT, va⟩ (decAM m l)) := by
 obtain ⟨A, tb, oT, va⟩ := q
 obtain ⟨aa, an, ac, rfl⟩ := hq.va
 have hw1 : St w ms ([(A.ub, blk (cU m.u) 178), (A.mb, blk (cMm A (.slice aa an ac) m) 137), (A.rb, blk (m.ram.map (Value.int .u8) ++ A.rs) 5)] ++ [(tb, oT), (A.ob, blk (m.rom.map (Value.int .u8) ++ A.sp) 5)]) w := St.perm_ix 5 [2, 1, 3, 0, 4] y_c rfl rfl hst
 have hon : ones [.slice aa an ac, A.plan, A.tab] = true := by rw [show A.plan = _ from hq.plan, show A.tab = _ from hq.at_]; rfl
 refine Does.frame hw1 (ms2 := [A.ub, A.mb, A.rb]) (fun b hb => mem_fst (G := [(A.ub, blk (cU m.u) 178), (A.mb, blk (cMm A (.slice aa an ac) m) 137), (A.rb, _)]) hb) (decodeM_fn A aa an ac m h hr hrl hon a c l hby hlm hlc [A.ub, A.mb, A.rb] w hw1.lentV hB (fun p hp hb => hpn p hp ((show ∀ x ∈ [A.ub, A.mb, A.rb], x ∈ [tb, A.mb, A.ub, A.rb, A.ob] by simp) _ hb))) ?_
 rintro v H w' ⟨rfl, ⟨mb', ub', rb', ob', oc', sp', rc', rs', plan', tab'⟩, aa', an', ac', ⟨h1, h2, h3, h4, h5, h6, h7⟩, rfl⟩ hw
 dsimp only at h1 h2 h3 h4 h5 h6 h7
 subst h1 h2 h3 h4 h5 h6 h7
 have hn := hw.nodup
 have hrom : (decAM m l).rom = m.rom := by unfold decAM; split <;> rfl
 simp only [List.cons_append, List.nil_append, List.map_cons, List.map_nil, List.nodup_cons, List.mem_cons, List.not_mem_nil, or_false, not_or] at hn
 refine ⟨_, St.perm_ix 5 [3, 1, 0, 2, 4] y_c rfl (by rw [← hrom]; rfl) hw, rfl, ⟨A.mb, A.ub, rb', A.ob, A.oc, A.sp, rc', rs', A.plan, A.tab⟩, .slice aa' an' ac', ⟨⟨by simp only [List.mem_cons, List.not_mem_nil, or_false, not_or]; exact ⟨fun h => hn.2.1.1 h.symm, fun h => hn.1.2.1 h.symm⟩, hq.apart.2⟩, hq.tab, hq.at_, hq.plan, _, _, _, rfl⟩, rfl, rfl⟩
end Go.Proofs.YtldehodcfajpjaaGreat
namespace Go.Proofs.YtldehodcfajpjaaGreat
open Go Go.VV
section
variable {plan : List Chg} {R m n : Mm}
theorem back_law (hm : MInv R True m) (hn : MInv R True n) : 0 = decAE n (encA m) ∧ decAM n (encA m) = { m with acc := [] } := by
 have hl : n.ram.length = m.ram.length := hn.fr.ram.trans hm.fr.ram.symm
 have hd := (hm.dec trivial)
 have hday : 0 ≤ m.ck.day ∧ m.ck.day < 65536 := by have := hd.dy; unfold Ck.Dy at this; omega
 have e8 : (encM m).length = 8482 := encM_len hm.wf
 have e1 : (encA m).drop 8482 = m.ram ++ encU m.u := by unfold encA; rw [← e8, List.drop_left]
 have e2 : (encA m).drop (8482 + n.ram.length) = encU m.u := by rw [← List.drop_drop, e1, hl, List.drop_left]
 have e3 : ((encA m).drop 8482).take n.ram.length = m.ram := by rw [e1, hl, List.take_left]
 have e4 : decFu n (encA m) = { m with acc := n.acc } := by
  unfold decFu decA
  rw [e2, e3, dec_enc hd.good, show decM n (encA m) = _ from decM_enc hm.wf hm.rg hday n _]
  have h1 : n.rom = m.rom := hn.fr.rom.trans hm.fr.rom.symm
  have h2 : n.hd = m.hd := hn.fr.hd.trans hm.fr.hd.symm
  have h3 : n.bk.kind = m.bk.kind := hn.fr.kind.trans hm.fr.kind.symm
  have h4 : n.bk.banks = m.bk.banks := hn.fr.banks.trans hm.fr.banks.symm
  have h5 : n.bk.ram = m.bk.ram := hn.fr.size.trans hm.fr.size.symm
  simp only [h1, h2, h3, h4, h5]
 have e5 : 0 = decAE n (encA m) := decAE_fine (m := n) (l := encA m) (by rw [encA_len hm.wf, encA_len hn.wf, hl]) (by rw [e2]; exact decE_enc hd.good) (by rw [e4]; rfl)
 exact ⟨e5, by rw [decAM_yes e5, e4]⟩
end
end Go.Proofs.YtldehodcfajpjaaGreat
namespace Go.Proofs.YtldehodcfajpjaaGreat
open Go Go.VV Go.Proofs Go.RowKit
theorem st_off {w0 w : World} {ms : List Nat} {R G : Heap} {b : Nat} {o : Obj} (hw : St w0 ms (R ++ G) w) (hb : (b, o) ∈ G) : b ∉ R.map (·.1) := fun h => by
 have hn := hw.nodup
 rw [List.map_append, List.nodup_append] at hn
 exact hn.2.2 _ h _ (List.mem_map.2 ⟨_, hb, rfl⟩) rfl
end Go.Proofs.YtldehodcfajpjaaGreat
