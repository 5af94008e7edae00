/- The law of peeking. -/
import Derived.Test.YtldehodcfajpjaaGreatQcZC
import Derived.Test.YtldehodcfajpjaaGreatQcZE
import Derived.Test.YtldehodcfajpjaaGreatQcZF
set_option linter.unusedSimpArgs false
set_option linter.unusedVariables false
set_option maxRecDepth 100000
set_option maxHeartbeats 4000000
namespace Go.Proofs.YtldehodcfajpjaaGreat
open Go Go.VV Go.Proofs Go.RowKit
theorem stepsN_fn (w : World) : Does Tryz.prog 29 [.pointer none] w [] (fun v H => H = [] ∧ v = .int .u64 0) := by
 refine does_of Tryz.func29 rfl rfl rfl (St.refl w) ?_
 refine ZDo ?_
 refine ZEB ?_
 exact ZCu
theorem cyclesN_fn (w : World) : Does Tryz.prog 24 [.pointer none] w [] (fun v H => H = [] ∧ v = .int .u64 0) := by
 refine does_of Tryz.func24 rfl rfl rfl (St.refl w) ?_
 refine ZDo ?_
 refine ZEB ?_
 exact ZCu
theorem videoN_fn (w : World) : Does Tryz.prog 35 [.pointer none] w [] (fun v H => H = [] ∧ v = .pointer none) := by
 refine does_of Tryz.func35 rfl rfl rfl (St.refl w) ?_
 refine ZDo ?_
 refine ZEB ?_
 exact ZCu
theorem bankN_fn (a : Int) (w : World) : Does Tryz.prog 27 [.pointer none, .int .u16 a] w [] (fun v H => H = [] ∧ v = .int .i64 0) := by
 refine does_of Tryz.func27 rfl rfl rfl (St.refl w) ?_
 refine ZDo ?_
 refine ZAf ?_
 refine L_4 ?_
 refine ZAj ?_
 exact ZCu
theorem peekN_fn (a : Int) (w : World) : Does Tryz.prog 25 [.pointer none, .int .u16 a] w [] (fun v H => H = [] ∧ v = .int .u8 0) := by
 refine does_of Tryz.func25 rfl rfl rfl (St.refl w) ?_
 refine ZAa ?_
 refine ZAQ ?_
 refine ZAV ?_
 refine ZAf ?_
 refine ZAB ?_
 refine ZDu ?_
 exact ZCu
theorem encodeN_fn (w : World) : Does Tryz.prog 31 [.pointer none] w [] (fun v H => H = [] ∧ v = .slice none 0 0) := by
 refine does_of Tryz.func31 rfl rfl rfl (St.refl w) ?_
 refine ZDo ?_
 refine ZEB ?_
 exact ZCu
end Go.Proofs.YtldehodcfajpjaaGreat
namespace Go.Proofs.YtldehodcfajpjaaGreat
open Go Go.VV
def zDd : Dd := ⟨0, 0, 0, oN, false⟩
section
variable {m : Mm} {a : Int}
theorem peek_echo (h : 0 ≤ a) : peekM (49152 + a % 7680 + 8192) m = peekM (49152 + a % 7680) m := by
 rw [peek_work o_m, peek_work o_m]
 congr 2
 omega
theorem peek_none (h : 0 ≤ a) : peekM (65184 + a % 96) m = 255 := by
 unfold peekM
 rw [if_neg o_m, show pictured (65184 + a % 96) = false from decide_eq_false o_m, if_neg y_c, if_neg o_m, if_neg o_m, if_pos o_m]
theorem bank_same (b : Bk) (h : 0 ≤ a) : bankB (16384 + a % 16384) b = bankB 16384 b := by
 have e : (16384 + a % 16384) / 16384 % 2 = 1 := by omega
 unfold bankB numB
 rw [e]
 rfl
theorem rom_idx (b : Bk) (h : 0 ≤ romB a b) : bankB a b * 16384 + a % 16384 = ((romB a b).toNat : Int) := by
 rw [Int.toNat_of_nonneg h]
 unfold romB
 omega
theorem or_top {a : Int} (h : 0 ≤ a ∧ a < 65536) : 32768 ≤ bor .u16 a 32768 ∧ bor .u16 a 32768 < 65536 := by
 rw [bor_nat (k := .u16) h.1 (show a < (65536 : Int) from h.2) y_c (show (32768 : Int) < (65536 : Int) by decide)]
 have h1 : 32768 ≤ a.toNat ||| (32768 : Int).toNat := Nat.right_le_or
 have h2 : a.toNat ||| (32768 : Int).toNat < 2 ^ 16 := Nat.or_lt_two_pow o_m y_c
 omega
end
end Go.Proofs.YtldehodcfajpjaaGreat
namespace Go.Proofs.YtldehodcfajpjaaGreat
open Go Go.VV Go.Proofs Go.RowKit
theorem stepN_fn (w : World) : Does Tryz.prog 19 [.pointer none] w [] (fun v H => H = [] ∧ v = .tuple #[.agg (cDd zDd).toArray, .slice none 0 0]) := by
 refine does_of Tryz.func19 rfl rfl rfl (St.refl w) ?_
 refine ZAA ?_
 refine RX (x_alloc (l := cDd zDd) rfl) rfl ?_
 refine ZC8 fun b0 => ?_
 refine ZAB ?_
 refine ZA1 ?_
 refine ZEB ?_
 refine ZAA ?_
 refine RS ?_
 refine RZ (x_storeTo (l' := cDd zDd) 0 rfl rfl rfl rfl rfl rfl (Nat.le_of_ble_eq_true rfl) rfl) rfl ?_
 refine ZAC ?_
 refine ZAI ?_
 exact l_end0 (fun w hw => rets_cell2 rfl rfl rfl (row_own (b := b0) (l := cDd zDd) m_m w hw) rfl) ⟨rfl, rfl⟩
theorem decodeN_fn (v : Value) (w : World) : Does Tryz.prog 37 [.pointer none, v] w [] (fun v H => H = [] ∧ v = .int .i64 5) := by
 refine does_of Tryz.func37 rfl rfl rfl (St.refl w) ?_
 refine ZDo ?_
 refine ZEB ?_
 exact ZCu
set_option maxHeartbeats 2000000 in
theorem peeks_fn (g : Gm) (s a : Int) (hs9 : 0 ≤ s ∧ s < 256) (ha9 : 0 ≤ a ∧ a < 65536) (w : World) (hg : g.Ok w) : Does Tryz.prog 8 [.agg (cGm g).toArray, .int .u8 s, .int .u16 a] w [] (fun v H => H = [] ∧ v = .bool true) := by
 have hl9 : (romG g).length = 65536 := romG_len g
 have hby9 := romG_byts hg
 refine does_of Tryz.func8 rfl rfl rfl (St.refl w) ?_
 refine ZA0 ?_
 rcases (show (fewG g = false) ∨ (fewG g = true ∧ errH (romG g) ≠ 0) ∨ (fewG g = true ∧ errH (romG g) = 0) by cases hf9 : fewG g <;> by_cases he9 : errH (romG g) = 0 <;> simp [he9]) with hf9 | ⟨hf9, he9⟩ | ⟨hf9, he9⟩
 ·refine ZAP ?_
  refine ZAt fun b0 => ?_
  refine ZAB ?_
  refine ZBX ?_
  refine ZEv ?_
  refine RZ (x_loadA rfl rfl rfl y_bi) rfl ?_
  refine RLv call_10 (fun w hw => few_fn g w) ?_
  refine Rl ?_
  refine l_sure true rfl rfl rfl y_bx ?_
  refine ZAj ?_
  refine ZAA ?_
  exact ZEh
 ·refine ZAP ?_
  refine ZAt fun b0 => ?_
  refine ZAB ?_
  refine ZBX ?_
  refine ZEv ?_
  refine RZ (x_loadA rfl rfl rfl y_bi) rfl ?_
  refine RLv call_10 (fun w hw => few_fn g w) ?_
  refine ZCA ?_
  refine ZBL ?_
  refine ZCM ?_
  refine Rl ?_
  refine ZA7 ?_
  refine RLv call_30 (fun w hw => runN_fn g (s % 150).toNat o_m w (hg.later hw) hf9 he9) ?_
  refine ZAB ?_
  refine ZA1 ?_
  refine ZEB ?_
  exact ZCu
 ·refine ZAP ?_
  refine ZAt fun b0 => ?_
  refine ZAB ?_
  refine ZBX ?_
  refine ZEv ?_
  refine RZ (x_loadA rfl rfl rfl y_bi) rfl ?_
  refine RLv call_10 (fun w hw => few_fn g w) ?_
  refine ZCA ?_
  refine ZBL ?_
  refine ZCM ?_
  refine Rl ?_
  refine ZA7 ?_
  refine RX (x_call call_30 rfl (fun w hw => runY_fn g (s % 150).toNat o_m w (hg.later hw) hf9 he9)) rfl ?_
  rintro _ _ ⟨_, ⟨q, pa, pc, Gp, hq, hP, rfl, rfl⟩, rfl⟩
  rw [List.append_assoc]
  have hi9 := runs_inv hg he9 (s % 150).toNat
  have hro9 : (runM g.plan (newM (romG g)) (s % 150).toNat).rom = romG g := hi9.fr.rom
  refine ZAB ?_
  refine ZA1 ?_
  refine ZDh ?_
  refine ZEP ?_
  rintro _ _ ⟨_, ⟨b1, c0, sp0, rfl, hc0, rfl⟩, rfl⟩
  simp only [List.cons_append]
  refine ZEl ?_
  refine RW (v := (.int .u16 (a % 7680))) (rem_pos rfl rfl y_c) rfl (as_rem o_m) ?_
  refine RW (v := (.int .u16 (49152 + a % 7680))) rfl rfl (as_u16 o_m o_m) ?_
  refine ZAB ?_
  refine c_cut (σ := Nat) [10, 34, 35, 36, 37, 38, 39, 40, 41, 42, 43, 44, 45, 46, 47, 48, 49, 50, 51, 52, 53, 54, 55, 56, 57, 58, 59, 60, 61, 62, 63, 64, 65, 66, 67, 68, 69, 70, 71, 72, 73, 74, 75, 76, 77, 78, 79, 80, 81, 82, 83, 84, 85, 86, 87, 88, 89, 90, 91, 92, 93, 94, 95, 96, 97, 98, 99, 100, 101, 102, 103, 104] (fun _ => [(10, .bool true)]) (fun _ => ((b1, blk ((encA (runM g.plan (newM (romG g)) (s % 150).toNat)).map (Value.int .u8) ++ sp0) 5) :: Gp) ++ hM q (runM g.plan (newM (romG g)) (s % 150).toNat)) (fun _ => True) ?_ ?_
  ·have hf8 := of_decide_eq_true hf9
   have hr1 := romB_lt hi9.wf (a := a % 16384) o_m
   have hr2 := romB_lt hi9.wf (a := 16384 + a % 16384) o_m
   rw [hro9, hl9] at hr1 hr2
   have e1 := rom_idx (a := a % 16384) _ hr1.1
   have e2 := rom_idx (a := 16384 + a % 16384) _ hr2.1
   rw [bank_same _ ha9.1] at e2
   have hot := or_top ha9
   refine c_drawF _ [2, 6, 13, 19, 22, 29, 31, 32, 33, 34, 35, 37, 38, 39, 42, 50, 53, 56, 57, 58] [0, 0, 3, 0, 0, 16, 63, 127, 255, 511, 511, 1535, 3583, 8191, 16383, 32767, 65535, 131071, 131071, 524287, 131071, 131071, 4194303, 8388607, 16777215, 33554431, 67108863, 67108863, 201326591, 536870911, 67108863, 2147483647, 67108863, 67108863, 8657043455, 34359738367, 68719476735, 67108863, 137506062335, 412383969279, 1099511627775, 2199023255551, 4398046511103, 8796093022207, 17592186044415, 35184372088831, 70368744177663, 70368744177663, 211106232532991, 492581209243647, 1125899906842623, 70368744177663, 4503599627370495, 70368744177663, 18014398509481983, 36028797018963967, 70368744177663, 72127962782105599, 216243150857961471, 576460752303423487, 1152921504606846975, 2305843009213693951, 4611686018427387903, 9223372036854775807, 18446744073709551615, 36893488147419103231, 36893488147419103231, 110680464442257309695, 295147905179352825855, 590295810358705651711, 1180591620717411303423, 2361183241434822606847] (.step true 0 (.step true 1 (.step true 3 (.step true 4 (.step true 5 (.step false 2 (.step false 6 (.step true 7 (.step true 8 (.step true 9 (.step true 10 (.step true 11 (.step true 12 (.step false 13 (.step true 14 (.step true 15 (.step true 16 (.step true 17 (.step true 18 (.step true 20 (.step true 21 (.step false 19 (.step false 22 (.step true 23 (.step true 24 (.step true 25 (.step true 26 (.step true 27 (.step true 28 (.step true 30 (.step true 32 (.step true 33 (.step true 34 (.step true 37 (.step true 38 (.step true 39 (.step false 29 (.step false 31 (.step false 35 (.step true 36 (.step true 40 (.step true 41 (.step false 42 (.step true 43 (.step true 44 (.step true 45 (.step true 46 (.step true 47 (.step true 48 (.step true 49 (.step true 51 (.step true 53 (.step true 56 (.step true 57 (.step true 58 (.step false 50 (.step false 52 (.step false 54 (.step true 55 (.step true 59 (.step true 60 (.step false 61 (.step true 62 (.step true 63 (.step true 64 (.step true 65 (.step true 66 (.step true 67 (.step false 68 (.step true 69 (.step true 70 (.step true 71 .done)))))))))))))))))))))))))))))))))))))))))))))))))))))))))))))))))))))))) rfl y_g y_g y_g (fun _ h => h) ?_
   iterate 4 refine RD ?_
   refine DW (v := (.int .u16 (49152 + a % 7680 + 8192))) rfl rfl rfl (as_u16 o_m o_m) ?_
   refine DZ rfl (x_val call_25 rfl (fun w hw => peekL hi9.wf hw (fun x hx => y_x) (49152 + a % 7680) o_m)) rfl y_b ?_
   refine DZ rfl (x_val call_25 rfl (fun w hw => peekL hi9.wf hw (fun x hx => y_x) (49152 + a % 7680 + 8192) o_m)) rfl y_b ?_
   rw [peek_echo ha9.1]
   refine ZEr ?_
   iterate 3 refine RD ?_
   refine DW (v := (.int .u16 (a % 96))) rfl (rem_pos rfl rfl y_c) rfl (as_rem o_m) ?_
   refine DW (v := (.int .u16 (65184 + a % 96))) rfl rfl rfl (as_u16 o_m o_m) ?_
   refine DZ rfl (x_val call_25 rfl (fun w hw => peekL hi9.wf hw (fun x hx => y_x) (65184 + a % 96) o_m)) rfl y_b ?_
   rw [peek_none ha9.1]
   refine ZEr ?_
   iterate 6 refine RD ?_
   refine DZ rfl (x_val call_25 rfl (fun w hw => peekL hi9.wf hw (fun x hx => y_x) (a) o_m)) rfl y_b ?_
   refine DZ rfl (x_val call_25 rfl (fun w hw => peekL hi9.wf hw (fun x hx => y_x) (a) o_m)) rfl y_b ?_
   refine ZEr ?_
   iterate 4 refine RD ?_
   refine ZC6 ?_
   refine d_loadA rfl rfl rfl rfl (srow_own (b := b0) (l := cGm g) (List.mem_append_right _ (.tail _ (List.mem_append_right _ (.head _))))) rfl rfl ?_
   refine D_2 ?_
   refine ZC6 ?_
   refine RD ?_
   refine ZC6 ?_
   refine DW (v := (.int .i64 (a % 16384))) rfl rfl rfl (as_i64 o_m o_m) ?_
   refine DZ rfl (x_val call_25 rfl (fun w hw => peekL hi9.wf hw (fun x hx => y_x) (a % 16384) o_m)) rfl y_b ?_
   rw [peek_rom (a := a % 16384) o_m, hro9]
   refine DX rfl (x_call call_12 rfl (fun w hw => rom_fn g w (hg.later hw) o_m)) rfl y_cb ?_
   rintro _ _ ⟨_, ⟨b2, rfl, rfl⟩, rfl⟩
   refine DZ rfl (x_val call_27 rfl (fun w hw => bankL hi9.wf hw (fun x hx => y_x) (a % 16384) o_m)) rfl y_b ?_
   rw [if_neg o_m]
   refine DW (v := (.int .i64 (bankB (a % 16384) (runM g.plan (newM (romG g)) (s % 150).toNat).bk * 16384))) rfl rfl rfl (as_i64 o_m o_m) ?_
   refine DW (v := (.int .i64 ((romB (a % 16384) (runM g.plan (newM (romG g)) (s % 150).toNat).bk).toNat : Int))) rfl rfl rfl (congrArg _ ((wrap_i64 o_m o_m).trans o_m)) ?_
   refine DY rfl (idx_slice1 (romB (a % 16384) (runM g.plan (newM (romG g)) (s % 150).toNat).bk).toNat rfl rfl rfl rfl o_m) rfl ?_
   refine DZ rfl (x_load rfl rfl (at_own (v := .int .u8 ((romG g).getD (romB (a % 16384) (runM g.plan (newM (romG g)) (s % 150).toNat).bk).toNat 0)) (b := b2) m_m (by rw [Nat.zero_add]; exact map_at (l := romG g) (j := (romB (a % 16384) (runM g.plan (newM (romG g)) (s % 150).toNat).bk).toNat) o_m))) rfl y_b ?_
   refine ZEr ?_
   iterate 4 refine RD ?_
   refine ZC6 ?_
   refine DW (v := (.int .u16 (16384 + a % 16384))) rfl rfl rfl (as_u16 o_m o_m) ?_
   refine d_loadA rfl rfl rfl rfl (srow_own (b := b0) (l := cGm g) (List.mem_append_right _ (.tail _ (List.mem_append_right _ (.head _))))) rfl rfl ?_
   refine D_2 ?_
   refine ZC6 ?_
   refine DW (v := (.int .i64 (a % 16384))) rfl rfl rfl (as_i64 o_m o_m) ?_
   refine DZ rfl (x_val call_25 rfl (fun w hw => peekL hi9.wf hw (fun x hx => y_x) (16384 + a % 16384) o_m)) rfl y_b ?_
   rw [peek_rom (a := 16384 + a % 16384) o_m, hro9]
   refine DX rfl (x_call call_12 rfl (fun w hw => rom_fn g w (hg.later hw) o_m)) rfl y_cb ?_
   rintro _ _ ⟨_, ⟨b3, rfl, rfl⟩, rfl⟩
   refine DZ rfl (x_val call_27 rfl (fun w hw => bankL hi9.wf hw (fun x hx => y_x) (16384) o_m)) rfl n_h ?_
   rw [if_neg y_c]
   refine DW (v := (.int .i64 (bankB 16384 (runM g.plan (newM (romG g)) (s % 150).toNat).bk * 16384))) rfl rfl rfl (as_i64 o_m o_m) ?_
   refine DW (v := (.int .i64 ((romB (16384 + a % 16384) (runM g.plan (newM (romG g)) (s % 150).toNat).bk).toNat : Int))) rfl rfl rfl (congrArg _ ((wrap_i64 o_m o_m).trans o_m)) ?_
   refine DY rfl (idx_slice1 (romB (16384 + a % 16384) (runM g.plan (newM (romG g)) (s % 150).toNat).bk).toNat rfl rfl rfl rfl o_m) rfl ?_
   refine DZ rfl (x_load rfl rfl (at_own (v := .int .u8 ((romG g).getD (romB (16384 + a % 16384) (runM g.plan (newM (romG g)) (s % 150).toNat).bk).toNat 0)) (b := b3) m_m (by rw [Nat.zero_add]; exact map_at (l := romG g) (j := (romB (16384 + a % 16384) (runM g.plan (newM (romG g)) (s % 150).toNat).bk).toNat) o_m))) rfl n_h ?_
   refine ZEr ?_
   iterate 4 refine RD ?_
   refine DW (v := (.int .u16 (bor .u16 a 32768))) rfl (l_or rfl rfl) rfl rfl ?_
   refine DZ rfl (x_val call_27 rfl (fun w hw => bankL hi9.wf hw (fun x hx => y_x) (bor .u16 a 32768) o_m)) rfl n_h ?_
   rw [if_pos hot.1]
   refine ZEr ?_
   refine ZCz ?_
   exact ⟨0, trivial, .cons rfl .nil, a_g, fun _ h => St.fl [[_], [_], Gp, [_], hM q (runM g.plan (newM (romG g)) (s % 150).toNat), [_]] [3, 2, 4] rfl h⟩
  ·rintro _ y8 _
   refine ZAa ?_
   refine ZAV ?_
   refine RLv call_19 (fun w hw => stepN_fn w) ?_
   refine ZBQ ?_
   refine ZD4 fun b2 => ?_
   refine RZ (x_storeTo (l' := cDd zDd) 0 rfl rfl rfl rfl rfl rfl (Nat.le_of_ble_eq_true rfl) rfl) rfl ?_
   refine ZAC ?_
   refine ZEl ?_
   refine ZAf ?_
   refine Rl ?_
   refine RX (x_callT (F := (b2, blk (cDd zDd) 52) :: (b1, blk ((encA (runM g.plan (newM (romG g)) (s % 150).toNat)).map (Value.int .u8) ++ sp0) 5) :: Gp) (A := hM q (runM g.plan (newM (romG g)) (s % 150).toNat)) call_31 rfl (fun w hw => encodeL q _ hi9.wf hi9.rg y_ba _ w (St.lentV hw))) rfl ?_
   rintro _ _ ⟨_, ⟨b3, cx1, sp1, rfl, hc1, rfl⟩, rfl⟩
   refine Rl ?_
   refine RLv call_32 (fun w hw => same_fn (some ⟨b3, 0, none⟩) (some ⟨b1, 0, none⟩) cx1 c0 (encA (runM g.plan (newM (romG g)) (s % 150).toNat)) y_dw w (Ns.of (row_own (b := b3) m_m w hw).left) (Ns.of (row_own (b := b1) m_m w hw).left)) ?_
   refine Rl ?_
   refine ZAf ?_
   refine L_2 ?_
   refine RLv call_25 (fun w hw => peekN_fn a w) ?_
   refine ZAf ?_
   iterate 4 refine Rl ?_
   refine RLv call_27 (fun w hw => bankN_fn a w) ?_
   refine ZAf ?_
   refine ZBQ ?_
   refine ZCU ?_
   refine Rl ?_
   refine RLv call_31 (fun w hw => encodeN_fn w) ?_
   refine ZCU ?_
   refine ZBd ?_
   refine ZAf ?_
   refine ZBQ ?_
   refine RLv call_29 (fun w hw => stepsN_fn w) ?_
   refine Rl ?_
   refine RLv call_24 (fun w hw => cyclesN_fn w) ?_
   refine RW (l_add rfl rfl) rfl y_dL ?_
   refine ZAf ?_
   refine ZBQ ?_
   refine RLv call_35 (fun w hw => videoN_fn w) ?_
   refine ZAf ?_
   iterate 4 refine Rl ?_
   refine RLv call_37 (fun w hw => decodeN_fn _ w) ?_
   refine ZAf ?_
   exact ZBM
end Go.Proofs.YtldehodcfajpjaaGreat
