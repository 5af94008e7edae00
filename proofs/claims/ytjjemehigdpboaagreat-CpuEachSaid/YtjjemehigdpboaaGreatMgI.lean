/- A step keeps what holds of bytes and pairs. Plain laws, no program's code. -/
import Derived.Test.YtjjemehigdpboaaGreatMgB
import Derived.Test.YtjjemehigdpboaaGreatMgC
import Derived.Test.YtjjemehigdpboaaGreatMgD
import Derived.Test.YtjjemehigdpboaaGreatMgF
import Derived.Test.YtjjemehigdpboaaGreatMgH
import Derived.Test.YtjjemehigdpboaaGreatProg
namespace Go.Proofs.YtjjemehigdpboaaGreat
open Go Go.VV Go.Proofs
set_option linter.unusedSimpArgs false
set_option linter.unusedVariables false
set_option maxRecDepth 100000
set_option maxHeartbeats 4000000 in
theorem plans_fn (w : World) :
  Does Tryz.prog 88 [] w [] (fun v H => ∃ b L G, v = .slice (some ⟨b, 0, none⟩) 41 41 ∧ H = (b, blk (flat cPl L) 139) :: G ∧ L.length = 41 ∧ PlsOk G L PL) := by
 refine does_of Tryz.func88 rfl rfl rfl (St.refl w) ?_
 refine c_seq ?_
 refine c_region ?_
 refine RL ?_
 refine l_nil ?_
 refine c_seq ?_
 refine c_region ?_
 refine l_x (x_slc (z := [.int .i64 0]) (l := [.int .i64 0, .int .i64 1, .int .i64 2, .int .i64 3, .int .i64 4, .int .i64 5, .int .i64 6, .int .i64 7]) (ps := [(0, .int .i64 0), (1, .int .i64 1), (2, .int .i64 2), (3, .int .i64 3), (4, .int .i64 4), (5, .int .i64 5), (6, .int .i64 6), (7, .int .i64 7)]) rfl rfl rfl rfl (by kernel_rfl) (by kernel_rfl)) rfl rfl ?_
 rintro _ _ ⟨b4, rfl, rfl⟩
 refine RL ?_
 refine l_nil ?_
 refine c_seq ?_
 refine c_region ?_
 refine l_x (x_slc (z := [.int .i64 0]) (l := [.int .i64 0, .int .i64 1, .int .i64 2, .int .i64 3]) (ps := [(0, .int .i64 0), (1, .int .i64 1), (2, .int .i64 2), (3, .int .i64 3)]) rfl rfl rfl rfl (by kernel_rfl) (by kernel_rfl)) rfl rfl ?_
 rintro _ _ ⟨b5, rfl, rfl⟩
 refine l_x (x_slc (z := [.int .i64 0]) (l := [.int .i64 0, .int .i64 1, .int .i64 2, .int .i64 4]) (ps := [(0, .int .i64 0), (1, .int .i64 1), (2, .int .i64 2), (3, .int .i64 4)]) rfl rfl rfl rfl (by kernel_rfl) (by kernel_rfl)) rfl rfl ?_
 rintro _ _ ⟨b6, rfl, rfl⟩
 refine RL ?_
 refine RL ?_
 refine l_nil ?_
 refine c_seq ?_
 refine c_region ?_
 refine l_l (light_struct rfl rfl rfl rfl) rfl rfl ?_
 refine l_l (light_struct rfl rfl rfl rfl) rfl rfl ?_
 refine l_l (light_struct rfl rfl rfl rfl) rfl rfl ?_
 refine l_x (x_slc rfl rfl rfl rfl rfl rfl) rfl rfl ?_
 rintro _ _ ⟨b10, rfl, rfl⟩
 refine l_l (light_struct rfl rfl rfl rfl) rfl rfl ?_
 refine RL ?_
 refine l_l (light_struct rfl rfl rfl rfl) rfl rfl ?_
 refine RL ?_
 refine l_l (light_struct rfl rfl rfl rfl) rfl rfl ?_
 refine RL ?_
 refine l_l (light_struct rfl rfl rfl rfl) rfl rfl ?_
 refine RL ?_
 refine l_l (light_struct rfl rfl rfl rfl) rfl rfl ?_
 refine RL ?_
 refine l_l (light_struct rfl rfl rfl rfl) rfl rfl ?_
 refine RL ?_
 refine l_l (light_struct rfl rfl rfl rfl) rfl rfl ?_
 refine RL ?_
 refine l_l (light_struct rfl rfl rfl rfl) rfl rfl ?_
 refine RL ?_
 refine l_l (light_struct rfl rfl rfl rfl) rfl rfl ?_
 refine RL ?_
 refine l_l (light_struct rfl rfl rfl rfl) rfl rfl ?_
 refine RL ?_
 refine l_l (light_struct rfl rfl rfl rfl) rfl rfl ?_
 refine RL ?_
 refine l_l (light_struct rfl rfl rfl rfl) rfl rfl ?_
 refine l_l (light_struct rfl rfl rfl rfl) rfl rfl ?_
 refine l_l (light_struct rfl rfl rfl rfl) rfl rfl ?_
 refine l_l (light_struct rfl rfl rfl rfl) rfl rfl ?_
 refine l_l (light_struct rfl rfl rfl rfl) rfl rfl ?_
 refine RL ?_
 refine l_l (light_struct rfl rfl rfl rfl) rfl rfl ?_
 refine l_l (light_struct rfl rfl rfl rfl) rfl rfl ?_
 refine l_l (light_struct rfl rfl rfl rfl) rfl rfl ?_
 refine l_l (light_struct rfl rfl rfl rfl) rfl rfl ?_
 refine l_l (light_struct rfl rfl rfl rfl) rfl rfl ?_
 refine RL ?_
 refine l_l (light_struct rfl rfl rfl rfl) rfl rfl ?_
 refine RL ?_
 refine l_l (light_struct rfl rfl rfl rfl) rfl rfl ?_
 refine l_x (x_slc rfl rfl rfl rfl rfl rfl) rfl rfl ?_
 rintro _ _ ⟨b48, rfl, rfl⟩
 refine l_l (light_struct rfl rfl rfl rfl) rfl rfl ?_
 refine l_l (light_struct rfl rfl rfl rfl) rfl rfl ?_
 refine l_l (light_struct rfl rfl rfl rfl) rfl rfl ?_
 refine l_l (light_struct rfl rfl rfl rfl) rfl rfl ?_
 refine RL ?_
 refine l_l (light_struct rfl rfl rfl rfl) rfl rfl ?_
 refine l_l (light_struct rfl rfl rfl rfl) rfl rfl ?_
 refine l_l (light_struct rfl rfl rfl rfl) rfl rfl ?_
 refine l_l (light_struct rfl rfl rfl rfl) rfl rfl ?_
 refine l_l (light_struct rfl rfl rfl rfl) rfl rfl ?_
 refine l_x (x_slc rfl rfl rfl rfl rfl rfl) rfl rfl ?_
 rintro _ _ ⟨b59, rfl, rfl⟩
 refine l_l (light_struct rfl rfl rfl rfl) rfl rfl ?_
 refine l_l (light_struct rfl rfl rfl rfl) rfl rfl ?_
 refine l_l (light_struct rfl rfl rfl rfl) rfl rfl ?_
 refine RL ?_
 refine l_l (light_struct rfl rfl rfl rfl) rfl rfl ?_
 refine l_x (x_slc rfl rfl rfl rfl rfl rfl) rfl rfl ?_
 rintro _ _ ⟨b65, rfl, rfl⟩
 refine l_l (light_struct rfl rfl rfl rfl) rfl rfl ?_
 refine RL ?_
 refine l_l (light_struct rfl rfl rfl rfl) rfl rfl ?_
 refine l_x (x_slc (z := cPl ⟨0, 0, 0, 0, 0, .slice none 0 0⟩) (l := flat cPl (plL b4 b5 b6 b10 b48 b59 b65)) (ps := [(0, .agg (cPl ((plL b4 b5 b6 b10 b48 b59 b65).getD 0 ⟨0, 0, 0, 0, 0, undef⟩)).toArray), (1, .agg (cPl ((plL b4 b5 b6 b10 b48 b59 b65).getD 1 ⟨0, 0, 0, 0, 0, undef⟩)).toArray), (2, .agg (cPl ((plL b4 b5 b6 b10 b48 b59 b65).getD 2 ⟨0, 0, 0, 0, 0, undef⟩)).toArray), (3, .agg (cPl ((plL b4 b5 b6 b10 b48 b59 b65).getD 3 ⟨0, 0, 0, 0, 0, undef⟩)).toArray), (4, .agg (cPl ((plL b4 b5 b6 b10 b48 b59 b65).getD 4 ⟨0, 0, 0, 0, 0, undef⟩)).toArray), (5, .agg (cPl ((plL b4 b5 b6 b10 b48 b59 b65).getD 5 ⟨0, 0, 0, 0, 0, undef⟩)).toArray), (6, .agg (cPl ((plL b4 b5 b6 b10 b48 b59 b65).getD 6 ⟨0, 0, 0, 0, 0, undef⟩)).toArray), (7, .agg (cPl ((plL b4 b5 b6 b10 b48 b59 b65).getD 7 ⟨0, 0, 0, 0, 0, undef⟩)).toArray), (8, .agg (cPl ((plL b4 b5 b6 b10 b48 b59 b65).getD 8 ⟨0, 0, 0, 0, 0, undef⟩)).toArray), (9, .agg (cPl ((plL b4 b5 b6 b10 b48 b59 b65).getD 9 ⟨0, 0, 0, 0, 0, undef⟩)).toArray), (10, .agg (cPl ((plL b4 b5 b6 b10 b48 b59 b65).getD 10 ⟨0, 0, 0, 0, 0, undef⟩)).toArray), (11, .agg (cPl ((plL b4 b5 b6 b10 b48 b59 b65).getD 11 ⟨0, 0, 0, 0, 0, undef⟩)).toArray), (12, .agg (cPl ((plL b4 b5 b6 b10 b48 b59 b65).getD 12 ⟨0, 0, 0, 0, 0, undef⟩)).toArray), (13, .agg (cPl ((plL b4 b5 b6 b10 b48 b59 b65).getD 13 ⟨0, 0, 0, 0, 0, undef⟩)).toArray), (14, .agg (cPl ((plL b4 b5 b6 b10 b48 b59 b65).getD 14 ⟨0, 0, 0, 0, 0, undef⟩)).toArray), (15, .agg (cPl ((plL b4 b5 b6 b10 b48 b59 b65).getD 15 ⟨0, 0, 0, 0, 0, undef⟩)).toArray), (16, .agg (cPl ((plL b4 b5 b6 b10 b48 b59 b65).getD 16 ⟨0, 0, 0, 0, 0, undef⟩)).toArray), (17, .agg (cPl ((plL b4 b5 b6 b10 b48 b59 b65).getD 17 ⟨0, 0, 0, 0, 0, undef⟩)).toArray), (18, .agg (cPl ((plL b4 b5 b6 b10 b48 b59 b65).getD 18 ⟨0, 0, 0, 0, 0, undef⟩)).toArray), (19, .agg (cPl ((plL b4 b5 b6 b10 b48 b59 b65).getD 19 ⟨0, 0, 0, 0, 0, undef⟩)).toArray), (20, .agg (cPl ((plL b4 b5 b6 b10 b48 b59 b65).getD 20 ⟨0, 0, 0, 0, 0, undef⟩)).toArray), (21, .agg (cPl ((plL b4 b5 b6 b10 b48 b59 b65).getD 21 ⟨0, 0, 0, 0, 0, undef⟩)).toArray), (22, .agg (cPl ((plL b4 b5 b6 b10 b48 b59 b65).getD 22 ⟨0, 0, 0, 0, 0, undef⟩)).toArray), (23, .agg (cPl ((plL b4 b5 b6 b10 b48 b59 b65).getD 23 ⟨0, 0, 0, 0, 0, undef⟩)).toArray), (24, .agg (cPl ((plL b4 b5 b6 b10 b48 b59 b65).getD 24 ⟨0, 0, 0, 0, 0, undef⟩)).toArray), (25, .agg (cPl ((plL b4 b5 b6 b10 b48 b59 b65).getD 25 ⟨0, 0, 0, 0, 0, undef⟩)).toArray), (26, .agg (cPl ((plL b4 b5 b6 b10 b48 b59 b65).getD 26 ⟨0, 0, 0, 0, 0, undef⟩)).toArray), (27, .agg (cPl ((plL b4 b5 b6 b10 b48 b59 b65).getD 27 ⟨0, 0, 0, 0, 0, undef⟩)).toArray), (28, .agg (cPl ((plL b4 b5 b6 b10 b48 b59 b65).getD 28 ⟨0, 0, 0, 0, 0, undef⟩)).toArray), (29, .agg (cPl ((plL b4 b5 b6 b10 b48 b59 b65).getD 29 ⟨0, 0, 0, 0, 0, undef⟩)).toArray), (30, .agg (cPl ((plL b4 b5 b6 b10 b48 b59 b65).getD 30 ⟨0, 0, 0, 0, 0, undef⟩)).toArray), (31, .agg (cPl ((plL b4 b5 b6 b10 b48 b59 b65).getD 31 ⟨0, 0, 0, 0, 0, undef⟩)).toArray), (32, .agg (cPl ((plL b4 b5 b6 b10 b48 b59 b65).getD 32 ⟨0, 0, 0, 0, 0, undef⟩)).toArray), (33, .agg (cPl ((plL b4 b5 b6 b10 b48 b59 b65).getD 33 ⟨0, 0, 0, 0, 0, undef⟩)).toArray), (34, .agg (cPl ((plL b4 b5 b6 b10 b48 b59 b65).getD 34 ⟨0, 0, 0, 0, 0, undef⟩)).toArray), (35, .agg (cPl ((plL b4 b5 b6 b10 b48 b59 b65).getD 35 ⟨0, 0, 0, 0, 0, undef⟩)).toArray), (36, .agg (cPl ((plL b4 b5 b6 b10 b48 b59 b65).getD 36 ⟨0, 0, 0, 0, 0, undef⟩)).toArray), (37, .agg (cPl ((plL b4 b5 b6 b10 b48 b59 b65).getD 37 ⟨0, 0, 0, 0, 0, undef⟩)).toArray), (38, .agg (cPl ((plL b4 b5 b6 b10 b48 b59 b65).getD 38 ⟨0, 0, 0, 0, 0, undef⟩)).toArray), (39, .agg (cPl ((plL b4 b5 b6 b10 b48 b59 b65).getD 39 ⟨0, 0, 0, 0, 0, undef⟩)).toArray), (40, .agg (cPl ((plL b4 b5 b6 b10 b48 b59 b65).getD 40 ⟨0, 0, 0, 0, 0, undef⟩)).toArray)]) rfl (by rfl) rfl rfl (by kernel_rfl) (by kernel_rfl)) rfl rfl ?_
 rintro _ _ ⟨b69, rfl, rfl⟩
 refine RL ?_
 refine l_nil ?_
 refine c_ret ?_
 exact l_end (fun _ _ => rets_v rfl) (List.Sublist.refl _) ⟨_, _, _, rfl, rfl, plL_len .., plL_ok (rowsIn_mem m_m) (rowsIn_mem m_m) (rowsIn_mem m_m) (rowsIn_mem m_m) (rowsIn_mem m_m) (rowsIn_mem m_m) (rowsIn_mem m_m)⟩

theorem p1_move {i : Nat} (h : i / 64 = 1) : p1 i = ⟨7, ((i / 8 % 8 : Nat) : Int), ((i % 8 : Nat) : Int), 1, 0⟩ := by unfold p1; rw [if_pos h]
theorem p1_sum {i : Nat} (h : i / 64 = 2) : p1 i = ⟨10, ((i / 8 % 8 : Nat) : Int), ((i % 8 : Nat) : Int), 1, 0⟩ := by unfold p1; rw [if_neg o_m, if_pos h]
theorem p1_bad {i : Nat} (h : ¬ i / 64 = 1) (h2 : ¬ i / 64 = 2) : p1 i = ⟨4, 0, 0, 1, 0⟩ := by unfold p1; rw [if_neg h, if_neg h2]

set_option maxHeartbeats 1000000 in
theorem fill_fn (b : Nat) (u1 u2 u3 : Value) (P B : List Opr) (hP0 : P.length = 256) (hB0 : B.length = 256) (w : World) (hb : w.heap[b]? = some (blk (tabL u1 u2 u3 P B) 72)) :
  Does Tryz.prog 54 [.pointer (some ⟨b, 0, none⟩)] w [b] (fun v H => v = .tuple #[] ∧ H = [(b, blk (tabL u1 u2 u3 tabP tabB) 72)]) := by
 refine does_of Tryz.func54 rfl rfl rfl (St.lent1 hb) ?_
 refine c_seq ?_
 refine c_seq ?_
 refine c_region ?_
 refine RL ?_
 refine l_nil ?_
 refine c_block ?_
 refine c_loop (σ := Nat × List Opr × List Opr) [2, 3, 4, 10, 11, 12, 13, 14, 15, 16, 17, 18, 19, 20, 21, 22, 23, 24, 25, 26, 27, 28, 29, 30, 31, 32, 33, 34, 35, 36, 37, 38, 39, 40, 41, 42, 43, 44, 45, 46, 47, 48, 49, 50, 51, 52, 53, 54, 55, 56, 57, 58, 59] (fun s => [(10, .int .i64 s.1)]) (fun s => [(b, blk (tabL u1 u2 u3 s.2.1 s.2.2) 72)]) (fun s => s.1 ≤ 256 ∧ Filled p1 s.2.1 s.1 ∧ Filled b1 s.2.2 s.1) (fun s => 256 - s.1) (0, P, B) ?_ ?_ ?_ ?_
 ·exact ⟨Nat.zero_le _, .start _ hP0, .start _ hB0⟩
 ·exact .cons rfl .nil
 ·exact fun _ h => h
 ·rintro ⟨i, P, B⟩ y1 ⟨hi, hF, hG⟩
  dsimp only at hi hF hG ⊢
  refine c_seq ?_
  refine c_region ?_
  refine RL ?_
  refine l_nil ?_
  refine c_seq ?_
  refine c_cond rfl (fun h1 => ?_) (fun h1 => ?_)
  ·refine c_skip ?_
   refine c_seq ?_
   refine c_block ?_
   refine c_seq ?_
   refine c_region ?_
   refine RL ?_
   refine RL ?_
   refine l_nil ?_
   refine c_seq ?_
   have hi' : i < 256 := by (try simp only [decide_eq_true_eq, decide_eq_false_iff_not, beq_iff_eq, beq_eq_false_iff_ne, bne_iff_ne, bne_eq_false_iff_eq, ne_eq] at *); omega
   have hP := hF.len
   have hB := hG.len
   refine c_region ?_
   refine RL ?_
   refine RL ?_
   refine l_l (light_struct rfl rfl rfl rfl) rfl rfl ?_
   refine RL ?_
   refine RLa ?_
   refine l_l (idx_array (s := 5) i rfl rfl rfl rfl (by (try simp only [decide_eq_true_eq, decide_eq_false_iff_not, beq_iff_eq, beq_eq_false_iff_ne, bne_iff_ne, bne_eq_false_iff_eq, ne_eq] at *); omega)) rfl rfl ?_
   refine l_x (x_store (vs := cO ⟨4, 0, 0, 1, 0⟩) 0 rfl rfl rfl rfl rfl rfl (by rw [tabL_len hP hB, cO_len]; omega)) rfl rfl ?_
   rintro _ _ ⟨rfl, rfl⟩
   simp only [List.set_cons_zero, List.set_cons_succ]
   rw [show 0 + 3 + i * 5 = 3 + i * 5 by omega, tabL_setP hP hi']
   refine l_nil ?_
   refine c_seq ?_
   have hP : (P.set i ⟨4, 0, 0, 1, 0⟩).length = 256 := by rw [List.length_set]; exact hF.len
   refine c_region ?_
   refine RL ?_
   refine l_as (v := (.int .i64 ((i / 8 : Nat) : Int))) (shr_pos rfl rfl (by decide)) rfl rfl (congrArg _ (shr_nat (k := 3) (by decide))) ?_
   refine l_as (v := (.int .i64 ((i / 8 % 8 : Nat) : Int))) rfl rfl rfl (congrArg _ (and7 o_m)) ?_
   refine RL ?_
   refine l_as (v := (.int .i64 ((i % 8 : Nat) : Int))) rfl rfl rfl (congrArg _ (and7 o_m)) ?_
   refine RL ?_
   refine RL ?_
   refine l_nil ?_
   refine c_seq ?_
   refine c_draw _ [] (.step true 0 (.step true 1 (.step true 3 (.step true 4 (.step true 7 (.step true 8 (.step true 10 (.step true 11 (.step false 2 (.step true 5 (.step false 6 (.step true 9 (.step true 12 (.step false 13 .done)))))))))))))) rfl (by kernel_rfl) (by kernel_rfl) (fun _ h => h) ?_
   iterate 3 refine RD ?_
   refine d_as (v := (.int .i64 ((i / 64 : Nat) : Int))) rfl (shr_pos rfl rfl (by decide)) rfl rfl rfl (congrArg _ (shr_nat (k := 6) (by decide))) ?_
   iterate 3 refine RD ?_
   refine RDa ?_
   refine d_x rfl (x_slc (z := [.int .i64 0]) (l := [.int .i64 17, .int .i64 44, .int .i64 45, .int .i64 46]) (ps := [(0, .int .i64 17), (1, .int .i64 44), (2, .int .i64 45), (3, .int .i64 46)]) rfl rfl rfl rfl (by kernel_rfl) (by kernel_rfl)) rfl rfl n_h ?_
   rintro _ _ ⟨b26, rfl, rfl⟩
   refine d_light rfl (idx_slice (s := 1) (i / 64) rfl rfl rfl rfl o_m) rfl rfl rfl ?_
   refine d_x rfl (x_load rfl rfl (at_own (.head _) (kind4' (i / 64) o_m))) rfl rfl n_h ?_
   rintro _ _ ⟨rfl, rfl⟩
   refine d_light rfl (light_struct rfl rfl rfl rfl) rfl rfl rfl ?_
   refine d_light rfl (idx_array (s := 5) i rfl rfl rfl rfl (by (try simp only [decide_eq_true_eq, decide_eq_false_iff_not, beq_iff_eq, beq_eq_false_iff_ne, bne_iff_ne, bne_eq_false_iff_eq, ne_eq] at *); omega)) rfl rfl rfl ?_
   refine d_x rfl (x_store (vs := cO (b1 i)) 1 rfl rfl rfl rfl rfl rfl (by rw [tabL_len hP hB, cO_len]; omega)) rfl rfl n_h ?_
   rintro _ _ ⟨rfl, rfl⟩
   simp only [List.set_cons_zero, List.set_cons_succ]
   rw [show 0 + 1283 + i * 5 = 1283 + i * 5 by omega, tabL_setB hP hB hi']
   refine d_nil ?_
   refine c_seq ?_
   refine c_region ?_
   refine RL ?_
   refine l_as (v := (.int .i64 ((i / 64 : Nat) : Int))) (shr_pos rfl rfl (by decide)) rfl rfl (congrArg _ (shr_nat (k := 6) (by decide))) ?_
   refine l_nil ?_
   refine c_block ?_
   refine c_seq ?_
   refine c_region ?_
   refine RL ?_
   refine RL ?_
   refine l_nil ?_
   refine c_cond rfl (fun h2 => ?_) (fun h2 => ?_)
   ·have hB : (B.set i (b1 i)).length = 256 := by rw [List.length_set]; exact hG.len
    refine c_region ?_
    iterate 4 refine RL ?_
    refine l_l (light_struct rfl rfl rfl rfl) rfl rfl ?_
    refine RL ?_
    refine RLa ?_
    refine l_l (idx_array (s := 5) i rfl rfl rfl rfl (by (try simp only [decide_eq_true_eq, decide_eq_false_iff_not, beq_iff_eq, beq_eq_false_iff_ne, bne_iff_ne, bne_eq_false_iff_eq, ne_eq] at *); omega)) rfl rfl ?_
    refine l_x (x_store (vs := cO ⟨7, ((i / 8 % 8 : Nat) : Int), ((i % 8 : Nat) : Int), 1, 0⟩) 1 rfl rfl rfl rfl rfl rfl (by rw [tabL_len hP hB, cO_len]; omega)) rfl rfl ?_
    rintro _ _ ⟨rfl, rfl⟩
    simp only [List.set_cons_zero, List.set_cons_succ]
    rw [show 0 + 3 + i * 5 = 3 + i * 5 by omega, tabL_setP hP hi', List.set_set]
    refine l_nil ?_
    refine c_region ?_
    refine l_as (v := (.int .i64 ((i + 1 : Nat) : Int))) rfl rfl rfl (congrArg _ (succ_law o_m)) ?_
    refine RL ?_
    refine l_nil ?_
    rw [← p1_move (i := i) (by (try simp only [decide_eq_true_eq, decide_eq_false_iff_not, beq_iff_eq, beq_eq_false_iff_ne, bne_iff_ne, bne_eq_false_iff_eq, ne_eq] at *); omega)]
    exact ⟨(i + 1, _, _), ⟨by (try simp only [decide_eq_true_eq, decide_eq_false_iff_not, beq_iff_eq, beq_eq_false_iff_ne, bne_iff_ne, bne_eq_false_iff_eq, ne_eq] at *); omega, hF.step hi', hG.step hi'⟩, by (try simp only [decide_eq_true_eq, decide_eq_false_iff_not, beq_iff_eq, beq_eq_false_iff_ne, bne_iff_ne, bne_eq_false_iff_eq, ne_eq] at *); omega, .cons rfl .nil, a_g, fun _ h => h.sub (List.sublist_cons_self _ _)⟩
   ·refine c_seq ?_
    refine c_region ?_
    refine RL ?_
    refine RL ?_
    refine l_nil ?_
    refine c_cond rfl (fun h3 => ?_) (fun h3 => ?_)
    ·have hB : (B.set i (b1 i)).length = 256 := by rw [List.length_set]; exact hG.len
     refine c_region ?_
     iterate 4 refine RL ?_
     refine l_l (light_struct rfl rfl rfl rfl) rfl rfl ?_
     refine RL ?_
     refine RLa ?_
     refine l_l (idx_array (s := 5) i rfl rfl rfl rfl (by (try simp only [decide_eq_true_eq, decide_eq_false_iff_not, beq_iff_eq, beq_eq_false_iff_ne, bne_iff_ne, bne_eq_false_iff_eq, ne_eq] at *); omega)) rfl rfl ?_
     refine l_x (x_store (vs := cO ⟨10, ((i / 8 % 8 : Nat) : Int), ((i % 8 : Nat) : Int), 1, 0⟩) 1 rfl rfl rfl rfl rfl rfl (by rw [tabL_len hP hB, cO_len]; omega)) rfl rfl ?_
     rintro _ _ ⟨rfl, rfl⟩
     simp only [List.set_cons_zero, List.set_cons_succ]
     rw [show 0 + 3 + i * 5 = 3 + i * 5 by omega, tabL_setP hP hi', List.set_set]
     refine l_nil ?_
     refine c_region ?_
     refine l_as (v := (.int .i64 ((i + 1 : Nat) : Int))) rfl rfl rfl (congrArg _ (succ_law o_m)) ?_
     refine RL ?_
     refine l_nil ?_
     rw [← p1_sum (i := i) (by (try simp only [decide_eq_true_eq, decide_eq_false_iff_not, beq_iff_eq, beq_eq_false_iff_ne, bne_iff_ne, bne_eq_false_iff_eq, ne_eq] at *); omega)]
     exact ⟨(i + 1, _, _), ⟨by (try simp only [decide_eq_true_eq, decide_eq_false_iff_not, beq_iff_eq, beq_eq_false_iff_ne, bne_iff_ne, bne_eq_false_iff_eq, ne_eq] at *); omega, hF.step hi', hG.step hi'⟩, by (try simp only [decide_eq_true_eq, decide_eq_false_iff_not, beq_iff_eq, beq_eq_false_iff_ne, bne_iff_ne, bne_eq_false_iff_eq, ne_eq] at *); omega, .cons rfl .nil, a_g, fun _ h => h.sub (List.sublist_cons_self _ _)⟩
    ·refine c_skip ?_
     refine c_region ?_
     refine l_as (v := (.int .i64 ((i + 1 : Nat) : Int))) rfl rfl rfl (congrArg _ (succ_law o_m)) ?_
     refine RL ?_
     refine l_nil ?_
     rw [← p1_bad (i := i) (by (try simp only [decide_eq_true_eq, decide_eq_false_iff_not, beq_iff_eq, beq_eq_false_iff_ne, bne_iff_ne, bne_eq_false_iff_eq, ne_eq] at *); omega) (by (try simp only [decide_eq_true_eq, decide_eq_false_iff_not, beq_iff_eq, beq_eq_false_iff_ne, bne_iff_ne, bne_eq_false_iff_eq, ne_eq] at *); omega)]
     exact ⟨(i + 1, _, _), ⟨by (try simp only [decide_eq_true_eq, decide_eq_false_iff_not, beq_iff_eq, beq_eq_false_iff_ne, bne_iff_ne, bne_eq_false_iff_eq, ne_eq] at *); omega, hF.step hi', hG.step hi'⟩, by (try simp only [decide_eq_true_eq, decide_eq_false_iff_not, beq_iff_eq, beq_eq_false_iff_ne, bne_iff_ne, bne_eq_false_iff_eq, ne_eq] at *); omega, .cons rfl .nil, a_g, fun _ h => h.sub (List.sublist_cons_self _ _)⟩
  ·refine c_exit rfl ?_
   refine c_seq ?_
   obtain rfl : 256 = i := by (try simp only [decide_eq_true_eq, decide_eq_false_iff_not, beq_iff_eq, beq_eq_false_iff_ne, bne_iff_ne, bne_eq_false_iff_eq, ne_eq] at *); omega
   obtain rfl := hF.all
   obtain rfl := hG.all
   have hP := hF.len
   have hB := hG.len
   refine c_region ?_
   refine RL ?_
   refine l_l (light_struct rfl rfl rfl rfl) rfl rfl ?_
   refine RL ?_
   refine RLa ?_
   refine l_l (idx_array (s := 5) 118 rfl rfl rfl rfl (by decide)) rfl rfl ?_
   refine l_x (x_store (vs := cO ⟨3, 0, 0, 1, 0⟩) 0 rfl rfl rfl rfl rfl rfl (by rw [tabL_len hP hB, cO_len]; omega)) rfl rfl ?_
   rintro _ _ ⟨rfl, rfl⟩
   simp only [List.set_cons_zero]
   rw [show 0 + 3 + 118 * 5 = 3 + 118 * 5 from rfl, tabL_setP hP (by decide)]
   refine l_nil ?_
   refine c_seq ?_
   refine c_seq ?_
   refine c_region ?_
   refine l_x (x_call call_88 rfl (fun w hw => plans_fn w)) rfl rfl ?_
   rintro _ _ ⟨_, ⟨b65, L, GL, rfl, rfl, hLl, hok⟩, rfl⟩
   refine l_heap (H' := (b, blk (tabL u1 u2 u3 startP tabB) 72) :: ((b65, blk (flat cPl L) 139) :: GL)) (fun _ h => St.fl [((b65, blk (flat cPl L) 139) :: GL), [_]] [1, 0] rfl h) ?_
   refine l_l l_n rfl rfl ?_
   refine RL ?_
   refine l_nil ?_
   refine c_block ?_
   refine c_loop (σ := Nat) [6, 7, 8, 67, 68, 69, 70, 71, 72, 73, 74, 75, 76, 77, 78, 79, 80, 81, 82, 83, 84, 85, 86, 87, 88, 89, 90, 91, 92, 93, 94, 95, 96, 97, 98, 99, 100, 101, 102, 103] (fun k => [(67, .int .i64 k)]) (fun k => (b, blk (tabL u1 u2 u3 ((PL.take k).foldl putQ startP) tabB) 72) :: ((b65, blk (flat cPl L) 139) :: GL)) (fun k => k ≤ 41) (fun k => 41 - k) 0 ?_ ?_ ?_ ?_
   ·exact Nat.zero_le _
   ·exact .cons rfl .nil
   ·exact fun _ h => h
   ·intro k y14 hk
    refine c_seq ?_
    refine c_region ?_
    refine RL ?_
    refine l_nil ?_
    refine c_seq ?_
    refine c_cond rfl (fun h4 => ?_) (fun h4 => ?_)
    ·refine c_skip ?_
     refine c_seq ?_
     refine c_block ?_
     refine c_seq ?_
     obtain ⟨q, hq⟩ : ∃ q, PL[k]? = some q := ⟨_, get_some (by rw [PL_len]; (try simp only [decide_eq_true_eq, decide_eq_false_iff_not, beq_iff_eq, beq_eq_false_iff_ne, bne_iff_ne, bne_eq_false_iff_eq, ne_eq] at *); omega)⟩
     obtain ⟨⟨pa, pb, pm, pk, ps, px⟩, hp, e1, e2, e3, e4, e5, e6⟩ := hok.get hq
     dsimp only at e1 e2 e3 e4 e5 e6
     subst e1 e2 e3 e4 e5
     obtain ⟨hq1, hq2, hq3, hq4⟩ := okQ_spec (okQ_at hq)
     have hP2 : ((PL.take k).foldl putQ startP).length = 256 := by rw [foldQ_len, startP_len]
     have e7 : (q.x = none ∧ px = .slice none 0 0) ∨ ∃ xs bx, q.x = some xs ∧ px = .slice (some ⟨bx, 0, none⟩) xs.length xs.length ∧ VV.RowsIn GL bx 0 (xs.map (.int .i64)) := by
      cases hx : q.x with
      | none => rw [hx] at e6; exact .inl ⟨rfl, e6⟩
      | some xs => rw [hx] at e6; obtain ⟨bx, h1, h2⟩ := e6; exact .inr ⟨xs, bx, rfl, h1, h2⟩
     rcases e7 with ⟨hx, rfl⟩ | ⟨xs, bx, hx, rfl, hrx⟩
     ·refine c_region ?_
      refine l_l (idx_slice (s := 6) k rfl rfl rfl rfl (by (try simp only [decide_eq_true_eq, decide_eq_false_iff_not, beq_iff_eq, beq_eq_false_iff_ne, bne_iff_ne, bne_eq_false_iff_eq, ne_eq] at *); omega)) rfl rfl ?_
      refine l_x (x_loadA rfl rfl rfl (fun w hw => (row_own (.tail _ (.head _)) w hw).nth' cPl_len hp)) rfl rfl ?_
      rintro _ _ ⟨rfl, rfl⟩
      refine l_x (x_alloc rfl) rfl rfl ?_
      rintro _ _ ⟨b6, rfl, rfl⟩
      refine l_x s_t rfl rfl ?_
      rintro _ _ ⟨rfl, rfl⟩
      refine l_nil ?_
      refine c_seq ?_
      refine c_region ?_
      refine RLa ?_
      refine RLo ?_
      refine RL ?_
      refine l_nil ?_
      refine c_block ?_
      refine c_loop (σ := Nat) [7, 8, 73, 74, 75, 76, 77, 78, 79, 80, 81, 82, 83, 84, 85, 86, 87, 88, 89, 90, 91, 92, 93, 94, 95, 96, 97, 98, 99, 100, 101, 102] (fun i => [(73, .int .i64 i)]) (fun i => (b, blk (tabL u1 u2 u3 (putN q ((PL.take k).foldl putQ startP) i) tabB) 72) :: (b6, blk (cPl ⟨q.at_, q.by_, q.many, q.kind, q.size, .slice none 0 0⟩) 139) :: ((b65, blk (flat cPl L) 139) :: GL)) (fun i => i ≤ q.many) (fun i => q.many - i) 0 ?_ ?_ ?_ ?_
      ·exact Nat.zero_le _
      ·exact .cons rfl .nil
      ·exact fun _ h => by simp only [putN_zero]; exact St.fl [[_], [_], ((b65, blk (flat cPl L) 139) :: GL)] [1, 0, 2] rfl h
      ·intro i y17 hi
       refine c_seq ?_
       refine c_region ?_
       refine RL ?_
       refine l_nil ?_
       refine c_seq ?_
       refine c_cond rfl (fun h5 => ?_) (fun h5 => ?_)
       ·refine c_skip ?_
        refine c_seq ?_
        refine c_block ?_
        refine c_seq ?_
        refine c_region ?_
        refine RL ?_
        refine RL ?_
        refine l_nil ?_
        refine c_seq ?_
        refine c_region ?_
        refine RLa ?_
        refine RLo ?_
        refine RLa ?_
        refine RLo ?_
        refine l_l (light_struct rfl rfl rfl rfl) rfl rfl ?_
        refine l_x (x_alloc rfl) rfl rfl ?_
        rintro _ _ ⟨b8, rfl, rfl⟩
        refine l_x s_t rfl rfl ?_
        rintro _ _ ⟨rfl, rfl⟩
        refine l_nil ?_
        refine c_seq ?_
        refine c_seq ?_
        refine c_region ?_
        refine RLa ?_
        refine RLo ?_
        refine l_sure false rfl rfl rfl rfl ?_
        refine l_nil ?_
        refine c_false rfl ?_
        refine c_skip ?_
        have hP : (putN q ((PL.take k).foldl putQ startP) i).length = 256 := by rw [putN_len]; exact hP2
        refine c_draw _ [3, 4, 5, 6, 8, 9, 10] (.step true 0 (.step true 1 (.step true 2 (.step true 3 (.step true 4 (.step true 5 (.step true 6 (.step true 7 (.step true 8 (.step true 9 (.step true 10 (.step true 11 (.step false 12 .done))))))))))))) rfl (by kernel_rfl) (by kernel_rfl) (fun _ h => h) ?_
        refine RD ?_
        refine RDa ?_
        refine RDo ?_
        refine RDa ?_
        refine RDo ?_
        refine RD ?_
        refine d_as (v := (.int .i64 ((q.by_ * i : Nat) : Int))) rfl rfl rfl rfl rfl (congrArg _ (by dsimp only; have := hq1 i (by (try simp only [decide_eq_true_eq, decide_eq_false_iff_not, beq_iff_eq, beq_eq_false_iff_ne, bne_iff_ne, bne_eq_false_iff_eq, ne_eq] at *); omega); rw [wrap_i64 (by rw [← Int.natCast_mul]; omega) (by rw [← Int.natCast_mul]; omega)]; simp)) ?_
        refine d_as (v := (.int .i64 ((q.at_ + q.by_ * i : Nat) : Int))) rfl rfl rfl rfl rfl (congrArg _ (by dsimp only; have := hq1 i (by (try simp only [decide_eq_true_eq, decide_eq_false_iff_not, beq_iff_eq, beq_eq_false_iff_ne, bne_iff_ne, bne_eq_false_iff_eq, ne_eq] at *); omega); rw [wrap_i64 o_m o_m]; omega)) ?_
        refine d_loadA rfl rfl rfl rfl (by first | exact srow_own m_m | exact srow_own_at m_m _ 5 rfl) rfl rfl ?_
        refine RD ?_
        refine RDa ?_
        refine d_light rfl (idx_array (s := 5) (q.at_ + q.by_ * i) rfl rfl rfl rfl (hq1 i (by (try simp only [decide_eq_true_eq, decide_eq_false_iff_not, beq_iff_eq, beq_eq_false_iff_ne, bne_iff_ne, bne_eq_false_iff_eq, ne_eq] at *); omega))) rfl rfl rfl ?_
        refine d_x rfl (x_store (vs := cO (qOp q i)) 1 rfl rfl (by rw [qOp_none hx]; rfl) rfl rfl rfl (by rw [tabL_len hP (by simp [tabB]), cO_len]; have := hq1 i (by (try simp only [decide_eq_true_eq, decide_eq_false_iff_not, beq_iff_eq, beq_eq_false_iff_ne, bne_iff_ne, bne_eq_false_iff_eq, ne_eq] at *); omega); omega)) rfl rfl n_h ?_
        rintro _ _ ⟨rfl, rfl⟩
        simp only [List.set_cons_zero, List.set_cons_succ]
        rw [show 0 + 3 + (q.at_ + q.by_ * i) * 5 = 3 + (q.at_ + q.by_ * i) * 5 by omega, tabL_setP hP (hq1 i (by (try simp only [decide_eq_true_eq, decide_eq_false_iff_not, beq_iff_eq, beq_eq_false_iff_ne, bne_iff_ne, bne_eq_false_iff_eq, ne_eq] at *); omega)), ← putN_succ]
        refine d_nil ?_
        refine c_region ?_
        refine l_as (v := (.int .i64 ((i + 1 : Nat) : Int))) rfl rfl rfl (congrArg _ (succ_law o_m)) ?_
        refine RL ?_
        refine l_nil ?_
        exact ⟨i + 1, by (try simp only [decide_eq_true_eq, decide_eq_false_iff_not, beq_iff_eq, beq_eq_false_iff_ne, bne_iff_ne, bne_eq_false_iff_eq, ne_eq] at *); omega, by (try simp only [decide_eq_true_eq, decide_eq_false_iff_not, beq_iff_eq, beq_eq_false_iff_ne, bne_iff_ne, bne_eq_false_iff_eq, ne_eq] at *); omega, .cons rfl .nil, a_g, fun _ h => h.sub (List.sublist_cons_self _ _)⟩
       ·refine c_exit rfl ?_
        refine c_region ?_
        refine l_as (v := (.int .i64 ((k + 1 : Nat) : Int))) rfl rfl rfl (congrArg _ (succ_law o_m)) ?_
        refine RL ?_
        refine l_nil ?_
        obtain rfl : q.many = i := by (try simp only [decide_eq_true_eq, decide_eq_false_iff_not, beq_iff_eq, beq_eq_false_iff_ne, bne_iff_ne, bne_eq_false_iff_eq, ne_eq] at *); omega
        exact ⟨k + 1, by (try simp only [decide_eq_true_eq, decide_eq_false_iff_not, beq_iff_eq, beq_eq_false_iff_ne, bne_iff_ne, bne_eq_false_iff_eq, ne_eq] at *); omega, by (try simp only [decide_eq_true_eq, decide_eq_false_iff_not, beq_iff_eq, beq_eq_false_iff_ne, bne_iff_ne, bne_eq_false_iff_eq, ne_eq] at *); omega, .cons rfl .nil, a_g, fun _ h => by rw [foldQ_take hq, putQ]; exact h.sub (.cons_cons _ (.cons _ (List.Sublist.refl _)))⟩
     ·refine c_region ?_
      refine l_l (idx_slice (s := 6) k rfl rfl rfl rfl (by (try simp only [decide_eq_true_eq, decide_eq_false_iff_not, beq_iff_eq, beq_eq_false_iff_ne, bne_iff_ne, bne_eq_false_iff_eq, ne_eq] at *); omega)) rfl rfl ?_
      refine l_x (x_loadA rfl rfl rfl (fun w hw => (row_own (.tail _ (.head _)) w hw).nth' cPl_len hp)) rfl rfl ?_
      rintro _ _ ⟨rfl, rfl⟩
      refine l_x (x_alloc rfl) rfl rfl ?_
      rintro _ _ ⟨b6, rfl, rfl⟩
      refine l_x s_t rfl rfl ?_
      rintro _ _ ⟨rfl, rfl⟩
      refine l_nil ?_
      refine c_seq ?_
      refine c_region ?_
      refine RLa ?_
      refine RLo ?_
      refine RL ?_
      refine l_nil ?_
      refine c_block ?_
      refine c_loop (σ := Nat) [7, 8, 73, 74, 75, 76, 77, 78, 79, 80, 81, 82, 83, 84, 85, 86, 87, 88, 89, 90, 91, 92, 93, 94, 95, 96, 97, 98, 99, 100, 101, 102] (fun i => [(73, .int .i64 i)]) (fun i => (b, blk (tabL u1 u2 u3 (putN q ((PL.take k).foldl putQ startP) i) tabB) 72) :: (b6, blk (cPl ⟨q.at_, q.by_, q.many, q.kind, q.size, .slice (some ⟨bx, 0, none⟩) xs.length xs.length⟩) 139) :: ((b65, blk (flat cPl L) 139) :: GL)) (fun i => i ≤ q.many) (fun i => q.many - i) 0 ?_ ?_ ?_ ?_
      ·exact Nat.zero_le _
      ·exact .cons rfl .nil
      ·exact fun _ h => by simp only [putN_zero]; exact St.fl [[_], [_], ((b65, blk (flat cPl L) 139) :: GL)] [1, 0, 2] rfl h
      ·intro i y17 hi
       refine c_seq ?_
       refine c_region ?_
       refine RL ?_
       refine l_nil ?_
       refine c_seq ?_
       refine c_cond rfl (fun h6 => ?_) (fun h6 => ?_)
       ·refine c_skip ?_
        refine c_seq ?_
        refine c_block ?_
        refine c_seq ?_
        refine c_region ?_
        refine RL ?_
        refine RL ?_
        refine l_nil ?_
        refine c_seq ?_
        refine c_region ?_
        refine RLa ?_
        refine RLo ?_
        refine RLa ?_
        refine RLo ?_
        refine l_l (light_struct rfl rfl rfl rfl) rfl rfl ?_
        refine l_x (x_alloc rfl) rfl rfl ?_
        rintro _ _ ⟨b8, rfl, rfl⟩
        refine l_x s_t rfl rfl ?_
        rintro _ _ ⟨rfl, rfl⟩
        refine l_nil ?_
        refine c_seq ?_
        refine c_seq ?_
        refine c_region ?_
        refine RLa ?_
        refine RLo ?_
        refine l_sure true rfl rfl rfl rfl ?_
        refine l_nil ?_
        refine c_true rfl ?_
        refine c_region ?_
        refine RLa ?_
        refine RLo ?_
        refine RL ?_
        refine l_l (idx_slice (s := 1) i rfl rfl rfl rfl (by rw [hq4 _ hx]; (try simp only [decide_eq_true_eq, decide_eq_false_iff_not, beq_iff_eq, beq_eq_false_iff_ne, bne_iff_ne, bne_eq_false_iff_eq, ne_eq] at *); omega)) rfl rfl ?_
        refine l_x (x_load rfl rfl (fun w hw => by rw [Nat.mul_one]; exact (hrx.row (fun x hx => by repeat (first | exact hx | refine .tail _ ?_ | refine List.mem_append_right _ ?_)) w hw) i _ (map_get (by rw [hq4 _ hx]; (try simp only [decide_eq_true_eq, decide_eq_false_iff_not, beq_iff_eq, beq_eq_false_iff_ne, bne_iff_ne, bne_eq_false_iff_eq, ne_eq] at *); omega)))) rfl rfl ?_
        rintro _ _ ⟨rfl, rfl⟩
        refine RLa ?_
        refine l_x s_t rfl rfl ?_
        rintro _ _ ⟨rfl, rfl⟩
        refine l_nil ?_
        have hP : (putN q ((PL.take k).foldl putQ startP) i).length = 256 := by rw [putN_len]; exact hP2
        refine c_draw _ [3, 4, 5, 6, 8, 9, 10] (.step true 0 (.step true 1 (.step true 2 (.step true 3 (.step true 4 (.step true 5 (.step true 6 (.step true 7 (.step true 8 (.step true 9 (.step true 10 (.step true 11 (.step false 12 .done))))))))))))) rfl (by kernel_rfl) (by kernel_rfl) (fun _ h => h) ?_
        refine RD ?_
        refine RDa ?_
        refine RDo ?_
        refine RDa ?_
        refine RDo ?_
        refine RD ?_
        refine d_as (v := (.int .i64 ((q.by_ * i : Nat) : Int))) rfl rfl rfl rfl rfl (congrArg _ (by dsimp only; have := hq1 i (by (try simp only [decide_eq_true_eq, decide_eq_false_iff_not, beq_iff_eq, beq_eq_false_iff_ne, bne_iff_ne, bne_eq_false_iff_eq, ne_eq] at *); omega); rw [wrap_i64 (by rw [← Int.natCast_mul]; omega) (by rw [← Int.natCast_mul]; omega)]; simp)) ?_
        refine d_as (v := (.int .i64 ((q.at_ + q.by_ * i : Nat) : Int))) rfl rfl rfl rfl rfl (congrArg _ (by dsimp only; have := hq1 i (by (try simp only [decide_eq_true_eq, decide_eq_false_iff_not, beq_iff_eq, beq_eq_false_iff_ne, bne_iff_ne, bne_eq_false_iff_eq, ne_eq] at *); omega); rw [wrap_i64 o_m o_m]; omega)) ?_
        refine d_loadA rfl rfl rfl rfl (by first | exact srow_own m_m | exact srow_own_at m_m _ 5 rfl) rfl rfl ?_
        refine RD ?_
        refine RDa ?_
        refine d_light rfl (idx_array (s := 5) (q.at_ + q.by_ * i) rfl rfl rfl rfl (hq1 i (by (try simp only [decide_eq_true_eq, decide_eq_false_iff_not, beq_iff_eq, beq_eq_false_iff_ne, bne_iff_ne, bne_eq_false_iff_eq, ne_eq] at *); omega))) rfl rfl rfl ?_
        refine d_x rfl (x_store (vs := cO (qOp q i)) 1 rfl rfl (by rw [qOp_some hx]; rfl) rfl rfl rfl (by rw [tabL_len hP (by simp [tabB]), cO_len]; have := hq1 i (by (try simp only [decide_eq_true_eq, decide_eq_false_iff_not, beq_iff_eq, beq_eq_false_iff_ne, bne_iff_ne, bne_eq_false_iff_eq, ne_eq] at *); omega); omega)) rfl rfl n_h ?_
        rintro _ _ ⟨rfl, rfl⟩
        simp only [List.set_cons_zero, List.set_cons_succ]
        rw [show 0 + 3 + (q.at_ + q.by_ * i) * 5 = 3 + (q.at_ + q.by_ * i) * 5 by omega, tabL_setP hP (hq1 i (by (try simp only [decide_eq_true_eq, decide_eq_false_iff_not, beq_iff_eq, beq_eq_false_iff_ne, bne_iff_ne, bne_eq_false_iff_eq, ne_eq] at *); omega)), ← putN_succ]
        refine d_nil ?_
        refine c_region ?_
        refine l_as (v := (.int .i64 ((i + 1 : Nat) : Int))) rfl rfl rfl (congrArg _ (succ_law o_m)) ?_
        refine RL ?_
        refine l_nil ?_
        exact ⟨i + 1, by (try simp only [decide_eq_true_eq, decide_eq_false_iff_not, beq_iff_eq, beq_eq_false_iff_ne, bne_iff_ne, bne_eq_false_iff_eq, ne_eq] at *); omega, by (try simp only [decide_eq_true_eq, decide_eq_false_iff_not, beq_iff_eq, beq_eq_false_iff_ne, bne_iff_ne, bne_eq_false_iff_eq, ne_eq] at *); omega, .cons rfl .nil, a_g, fun _ h => h.sub (List.sublist_cons_self _ _)⟩
       ·refine c_exit rfl ?_
        refine c_region ?_
        refine l_as (v := (.int .i64 ((k + 1 : Nat) : Int))) rfl rfl rfl (congrArg _ (succ_law o_m)) ?_
        refine RL ?_
        refine l_nil ?_
        obtain rfl : q.many = i := by (try simp only [decide_eq_true_eq, decide_eq_false_iff_not, beq_iff_eq, beq_eq_false_iff_ne, bne_iff_ne, bne_eq_false_iff_eq, ne_eq] at *); omega
        exact ⟨k + 1, by (try simp only [decide_eq_true_eq, decide_eq_false_iff_not, beq_iff_eq, beq_eq_false_iff_ne, bne_iff_ne, bne_eq_false_iff_eq, ne_eq] at *); omega, by (try simp only [decide_eq_true_eq, decide_eq_false_iff_not, beq_iff_eq, beq_eq_false_iff_ne, bne_iff_ne, bne_eq_false_iff_eq, ne_eq] at *); omega, .cons rfl .nil, a_g, fun _ h => by rw [foldQ_take hq, putQ]; exact h.sub (.cons_cons _ (.cons _ (List.Sublist.refl _)))⟩
    ·refine c_exit rfl ?_
     refine c_seq ?_
     obtain rfl : 41 = k := by (try simp only [decide_eq_true_eq, decide_eq_false_iff_not, beq_iff_eq, beq_eq_false_iff_ne, bne_iff_ne, bne_eq_false_iff_eq, ne_eq] at *); omega
     rw [show PL.take 41 = PL from rfl]
     have hQl : (PL.foldl putQ startP).length = 256 := by rw [foldQ_len, startP_len]
     obtain ⟨PQ, hPQ⟩ : ∃ X, PL.foldl putQ startP = X := ⟨_, rfl⟩
     rw [hPQ]
     rw [hPQ] at hQl
     refine c_region ?_
     refine RL ?_
     refine l_nil ?_
     refine c_block ?_
     refine c_loop (σ := Nat) [9, 104, 105, 106, 107, 108, 109, 110, 111, 112, 113, 114, 115, 116, 117, 118] (fun y => [(104, .int .i64 y)]) (fun y => (b, blk (tabL u1 u2 u3 (rstP PQ y) tabB) 72) :: ((b65, blk (flat cPl L) 139) :: GL)) (fun y => y ≤ 8) (fun y => 8 - y) 0 ?_ ?_ ?_ ?_
     ·exact Nat.zero_le _
     ·exact .cons rfl .nil
     ·exact fun _ h => by simp only [rstP_zero]; exact h
     ·intro y y26 hy
      refine c_seq ?_
      refine c_region ?_
      refine RL ?_
      refine l_nil ?_
      refine c_seq ?_
      refine c_cond rfl (fun h7 => ?_) (fun h7 => ?_)
      ·refine c_skip ?_
       refine c_seq ?_
       refine c_block ?_
       refine c_seq ?_
       refine c_region ?_
       refine RL ?_
       refine RL ?_
       refine l_nil ?_
       have hy8 : y < 8 := by (try simp only [decide_eq_true_eq, decide_eq_false_iff_not, beq_iff_eq, beq_eq_false_iff_ne, bne_iff_ne, bne_eq_false_iff_eq, ne_eq] at *); omega
       have hP : (rstP PQ y).length = 256 := by rw [rstP_len]; exact hQl
       have hB : tabB.length = 256 := by simp [tabB]
       refine c_region ?_
       refine RL ?_
       refine RL ?_
       refine l_as (v := (.int .i64 ((8 * y : Nat) : Int))) rfl rfl rfl (congrArg _ (by rw [wrap_i64 o_m o_m]; omega)) ?_
       refine l_as (v := (.int .i64 ((199 + 8 * y : Nat) : Int))) rfl rfl rfl (congrArg _ (by rw [wrap_i64 o_m o_m]; omega)) ?_
       refine RL ?_
       refine l_as (v := (.int .i64 ((8 * y : Nat) : Int))) rfl rfl rfl (congrArg _ (by rw [wrap_i64 o_m o_m]; omega)) ?_
       refine l_as (v := (.int .u16 ((8 * y : Nat) : Int))) rfl rfl rfl (congrArg _ (wrap_u16_id o_m o_m)) ?_
       refine l_l (light_struct rfl rfl rfl rfl) rfl rfl ?_
       refine RL ?_
       refine RLa ?_
       refine l_l (idx_array (s := 5) (199 + 8 * y) rfl rfl rfl rfl (by (try simp only [decide_eq_true_eq, decide_eq_false_iff_not, beq_iff_eq, beq_eq_false_iff_ne, bne_iff_ne, bne_eq_false_iff_eq, ne_eq] at *); omega)) rfl rfl ?_
       refine l_x (x_store (vs := cO ⟨28, 0, 0, 1, ((8 * y : Nat) : Int)⟩) 0 rfl rfl rfl rfl rfl rfl (by rw [tabL_len hP hB, cO_len]; omega)) rfl rfl ?_
       rintro _ _ ⟨rfl, rfl⟩
       simp only [List.set_cons_zero]
       rw [show 0 + 3 + (199 + 8 * y) * 5 = 3 + (199 + 8 * y) * 5 by omega, tabL_setP hP o_m, ← rstP_succ]
       refine l_nil ?_
       refine c_region ?_
       refine l_as (v := (.int .i64 ((y + 1 : Nat) : Int))) rfl rfl rfl (congrArg _ (succ_law o_m)) ?_
       refine RL ?_
       refine l_nil ?_
       exact ⟨y + 1, by (try simp only [decide_eq_true_eq, decide_eq_false_iff_not, beq_iff_eq, beq_eq_false_iff_ne, bne_iff_ne, bne_eq_false_iff_eq, ne_eq] at *); omega, by (try simp only [decide_eq_true_eq, decide_eq_false_iff_not, beq_iff_eq, beq_eq_false_iff_ne, bne_iff_ne, bne_eq_false_iff_eq, ne_eq] at *); omega, .cons rfl .nil, a_g, fun _ h => h⟩
      ·refine c_exit rfl ?_
       obtain rfl : 8 = y := by (try simp only [decide_eq_true_eq, decide_eq_false_iff_not, beq_iff_eq, beq_eq_false_iff_ne, bne_iff_ne, bne_eq_false_iff_eq, ne_eq] at *); omega
       rw [← hPQ, tab_eq]
       exact l_end (fun _ _ => rets_none) (.cons_cons _ (List.nil_sublist _)) ⟨rfl, rfl⟩

end Go.Proofs.YtjjemehigdpboaaGreat
namespace Go.Proofs.YtjjemehigdpboaaGreat
open Go Go.VV Go.Proofs Go.RowKit
set_option linter.unusedSimpArgs false
set_option linter.unusedVariables false
set_option maxRecDepth 100000
theorem disable (w : World) : (callFunc 112 #[]).run Tryz.prog w = .ok (.value (.tuple #[])) w := run_call_mark0 Tryz.func112 (by kernel_rfl) (by kernel_rfl) (by kernel_rfl) .disable (by kernel_rfl) w
theorem enable (w : World) : (callFunc 114 #[]).run Tryz.prog w = .ok (.value (.tuple #[])) w := run_call_mark0 Tryz.func114 (by kernel_rfl) (by kernel_rfl) (by kernel_rfl) .enable (by kernel_rfl) w
theorem acquire (a : Addr) (w : World) : (callFunc 115 #[.pointer (some a)]).run Tryz.prog w = .ok (.value (.tuple #[])) w := run_call_marked Tryz.func115 (by kernel_rfl) (by kernel_rfl) (by kernel_rfl) .acquire (by kernel_rfl) a w
theorem releaseMerge (a : Addr) (w : World) : (callFunc 117 #[.pointer (some a)]).run Tryz.prog w = .ok (.value (.tuple #[])) w := run_call_marked Tryz.func117 (by kernel_rfl) (by kernel_rfl) (by kernel_rfl) .releaseMerge (by kernel_rfl) a w

/-- '(*sync/atomic.Bool).Store(true)', entered as a deferred call: the cell holds 1. -/
theorem store_deferred (a : Addr) (x : Value) (u : FrameMode) (w : World) (hc : w.cell? a = some x) (hz : w.frozen? a = false) :
    CallsD Tryz.prog 104 #[.pointer (some a), .bool true] u w fun e u' w' => u' = u ∧ (e = .returned (.tuple #[]) ∧ w' = w.drew.setCell a (.int .u32 1)) := by
  have hc' : w.drew.cell? a = some x := by go_simp
  have hz' : w.drew.frozen? a = false := by go_simp
  have hst := run_call_store (P := Tryz.prog) Tryz.func110 (by kernel_rfl) (by kernel_rfl) (by kernel_rfl) (by kernel_rfl) (k := .u32) (y := 1) hc' hz'
  go_enter_d Tryz.func104, Tryz.ntmps104
  go_wp2
  go_region_calls
  all_goals (go_end0; exact ⟨rfl, rfl⟩)

/-- '(*sync.Mutex).Unlock', entered as a deferred call, the lock held and nobody waiting: state 0. -/
theorem unlock_deferred (a : Addr) (u : FrameMode) (w : World) (hc : w.cell? a = some (.int .i32 1)) (hz : w.frozen? a = false) :
    CallsD Tryz.prog 103 #[.pointer (some a)] u w fun e u' w' => u' = u ∧ (e = .returned (.tuple #[]) ∧ w' = w.setCell a (.int .i32 0)) := by
  have hd := disable
  have he := enable
  have hr := releaseMerge
  have hadd := run_call_add (P := Tryz.prog) Tryz.func118 (by kernel_rfl) (by kernel_rfl) (by kernel_rfl) .i32 (by kernel_rfl) (y := -1) (s := 0) hc hz (by simp [go_sem]; rfl)
  have hcv := run_convert_to_unsafe (P := Tryz.prog) (src := 165) (dst := 169) Tryz.underlying165 Tryz.underlying169 (by kernel_rfl) hc
  go_enter_d Tryz.func103, Tryz.ntmps103
  go_wp2
  go_end0
  go_wp2
  go_end0
  exact ⟨rfl, rfl⟩

/-- '(*sync.Mutex).Lock', the lock free: state 1. -/
theorem lock_free (a : Addr) (w : World) (hc : w.cell? a = some (.int .i32 0)) (hz : w.frozen? a = false) :
    Calls Tryz.prog 102 #[.pointer (some a)] w fun e w' => e = .returned (.tuple #[]) ∧ w' = w.setCell a (.int .i32 1) := by
  have hd := disable
  have he := enable
  have ha := acquire
  have hcas := run_call_cas_hit (P := Tryz.prog) Tryz.func113 (by kernel_rfl) (by kernel_rfl) (by kernel_rfl) .i32 (by kernel_rfl) (y := 1) hc hz
  have hc' : (w.setCell a (.int .i32 1)).cell? a = some (.int .i32 1) := World.cell?_setCell_same w a _ hc
  have hcv := run_convert_to_unsafe (P := Tryz.prog) (src := 165) (dst := 169) Tryz.underlying165 Tryz.underlying169 (by kernel_rfl) hc'
  go_enter Tryz.func102, Tryz.ntmps102
  go_wp2
  first | go_end0 | (simp only [Exit.inBlock, Exit.then]; refine bodyPost_ret (results_none rfl _ _ _) rfl ?_) | refine bodyPost_ret (results_none rfl _ _ _) rfl ?_
  go_wp2
  go_end0
  exact ⟨rfl, rfl⟩

set_option maxHeartbeats 1600000 in
/-- '(*sync.Once).doSlow', not yet done and the lock free: whatever the function does. -/
theorem slow_once (b : Nat) (w : World) (F : World → Prop)
    (h0 : w.cell? ⟨b, 0, none⟩ = some (.int .u32 0)) (h1 : w.cell? ⟨b, 0 + 1, none⟩ = some (.int .i32 0)) (f1 : w.frozen? ⟨b, 0 + 1, none⟩ = false)
    (hf : Calls Tryz.prog 54 #[.pointer (some ⟨b, 0, none⟩)] (w.setCell ⟨b, 0 + 1, none⟩ (.int .i32 1)) fun e w' => e = .returned (.tuple #[]) ∧ F w')
    (hF : ∀ w', F w' → w'.cell? ⟨b, 0, none⟩ = some (.int .u32 0) ∧ w'.cell? ⟨b, 0 + 1, none⟩ = some (.int .i32 1) ∧ w'.frozen? ⟨b, 0, none⟩ = false ∧ w'.frozen? ⟨b, 0 + 1, none⟩ = false) :
    Calls Tryz.prog 87 #[.pointer (some ⟨b, 0, none⟩), .func (.func 54) #[.pointer (some ⟨b, 0, none⟩)] #[]] w fun e w' => e = .returned (.tuple #[]) ∧
      ∃ w2, F w2 ∧ w' = (w2.drew.setCell ⟨b, 0, none⟩ (.int .u32 1)).setCell ⟨b, 0 + 1, none⟩ (.int .i32 0) := by
  have hl := run_call_load (P := Tryz.prog) Tryz.func101 (by kernel_rfl) (by kernel_rfl) (by kernel_rfl) .u32 (by kernel_rfl) (w := w.setCell ⟨b, 0 + 1, none⟩ (.int .i32 1)) (a := ⟨b, 0, none⟩) (x := 0) ((World.cell?_setCell_other _ ⟨b, 0 + 1, none⟩ ⟨b, 0, none⟩ _ (by simp)).trans h0)
  have hnot : ∀ (x : Bool) (w : World), (Op.unary .not (.bool x)).run Tryz.prog w = .ok (.bool (!x)) w := fun _ _ => rfl
  go_enter_defers Tryz.func87, Tryz.ntmps87
  go_wp2_with (go_at_call 102; refine (lock_free ⟨b, 0 + 1, none⟩ _ (by go_simp) (by go_simp)).mono ?_; rintro e w' ⟨rfl, rfl⟩)
  go_wp2_with (first | (go_at_call 54; refine hf.mono ?_; rintro e w' ⟨rfl, hw2⟩) | (go_at_call 86; go_in))
  obtain ⟨c0, c1, z0, z1⟩ := hF _ hw2
  refine leaves_cons (f := 104) (args := #[.pointer (some ⟨b, 0, none⟩), .bool true]) (by simp) (by simp [go_sem]) ?_
  refine (store_deferred ⟨b, 0, none⟩ (.int .u32 0) .returning _ c0 z0).mono ?_
  rintro e u' w'' ⟨rfl, rfl, rfl⟩
  refine leaves_cons (f := 103) (args := #[.pointer (some ⟨b, 0 + 1, none⟩)]) (by simp [settle]) (by simp [go_sem]) ?_
  refine (unlock_deferred ⟨b, 0 + 1, none⟩ _ _ ?_ ?_).mono ?_
  · refine (World.cell?_setCell_other _ ⟨b, 0, none⟩ ⟨b, 0 + 1, none⟩ _ (by simp)).trans ?_
    rw [World.cell?_drew]
    exact c1
  · simpa using z1
  rintro e u' w'' ⟨rfl, rfl, rfl⟩
  simp [Leaves, settle, results, Tryz.results87]
  exact ⟨_, hw2, rfl⟩

/-- A table that is filled. -/
def TabF (b : Nat) (u3 : Value) : Heap := [(b, blk (tabL (.int .u32 1) (.int .i32 0) u3 tabP tabB) 72)]
/-- A table, whether it is filled or new. -/
def TabH (b : Nat) (u3 : Value) (H : Heap) : Prop :=
  (∃ P B, P.length = 256 ∧ B.length = 256 ∧ H = [(b, blk (tabL (.int .u32 0) (.int .i32 0) u3 P B) 72)]) ∨ H = TabF b u3
theorem load_once (b : Nat) (d : Int) (w : World) (h0 : w.cell? ⟨b, 0, none⟩ = some (.int .u32 d)) :
    Calls Tryz.prog 86 #[.pointer (some ⟨b, 0, none⟩)] w fun e w' => e = .returned (.bool (d != 0)) ∧ w' = w := by
  have hl := run_call_load (P := Tryz.prog) Tryz.func101 (by kernel_rfl) (by kernel_rfl) (by kernel_rfl) .u32 (by kernel_rfl) h0
  go_enter Tryz.func86, Tryz.ntmps86
  go_wp2
  go_ret
  exact ⟨rfl, rfl⟩
theorem load_fn (b : Nat) (d : Int) (w : World) (h0 : w.cell? ⟨b, 0, none⟩ = some (.int .u32 d)) :
    Does Tryz.prog 86 [.pointer (some ⟨b, 0, none⟩)] w [] (fun v H => H = [] ∧ v = .bool (d != 0)) := by
  refine Calls.mono (load_once b d w h0) ?_
  rintro e w' ⟨rfl, rfl⟩
  exact ⟨_, [], rfl, St.refl _, rfl, rfl⟩
theorem slow_fn (b : Nat) (u3 : Value) (P B : List Opr) (hP : P.length = 256) (hB : B.length = 256) (w : World) (hb : w.heap[b]? = some (blk (tabL (.int .u32 0) (.int .i32 0) u3 P B) 72)) :
    Does Tryz.prog 87 [.pointer (some ⟨b, 0, none⟩), .func (.func 54) #[.pointer (some ⟨b, 0, none⟩)] #[]] w [b] (fun v H => v = .tuple #[] ∧ H = TabF b u3) := by
  have hst := St.lent1 hb
  have h1 : St w [b] [(b, blk (tabL (.int .u32 0) (.int .i32 1) u3 P B) 72)] (w.setCell ⟨b, 0 + 1, none⟩ (.int .i32 1)) := hst.setCell (off := 0 + 1) (.int .i32 1)
  have hb1 := h1.holds _ (.head _)
  refine Calls.mono (slow_once b w (fun w2 => St (w.setCell ⟨b, 0 + 1, none⟩ (.int .i32 1)) [b] [(b, blk (tabL (.int .u32 0) (.int .i32 1) u3 tabP tabB) 72)] w2)
    (by rw [cell_blk hb]; rfl) (by rw [cell_blk hb]; rfl) (frozen_blk hb) (Calls.mono (fill_fn b _ _ _ P B hP hB _ hb1) ?_) ?_) ?_
  · rintro e w' ⟨v, H, rfl, h2, rfl, rfl⟩
    exact ⟨rfl, h2⟩
  · intro w2 h2
    have hb2 := h2.holds _ (.head _)
    exact ⟨by rw [cell_blk hb2]; rfl, by rw [cell_blk hb2]; rfl, frozen_blk hb2, frozen_blk hb2⟩
  · rintro e w' ⟨rfl, w2, h2, rfl⟩
    have hA := h1.after h2
    have hC := (hA.drew.setCell (off := 0) (.int .u32 1)).setCell (off := 0 + 1) (.int .i32 0)
    exact ⟨_, _, rfl, hC, rfl, rfl⟩

end Go.Proofs.YtjjemehigdpboaaGreat
namespace Go.Proofs.YtjjemehigdpboaaGreat
open Go Go.VV Go.Proofs
set_option linter.unusedSimpArgs false
set_option linter.unusedVariables false
set_option maxRecDepth 100000
theorem TabH.blocks {b : Nat} {u3 : Value} {H : Heap} (h : TabH b u3 H) : H.map (·.1) = [b] := by
 rcases h with ⟨_, _, _, _, rfl⟩ | rfl <;> rfl
theorem TabH.lent {b : Nat} {u3 : Value} {H R : Heap} (h : TabH b u3 H) {w0 w : World} {ms : List Nat} (hw : St w0 ms (H ++ R) w) : St w [b] H w := by
 have := hw.lentV
 rwa [h.blocks] at this
theorem TabH.mem {b : Nat} {u3 : Value} {H : Heap} (h : TabH b u3 H) : ∀ x ∈ [b], ∃ o, (x, o) ∈ H := fun x hx => by
 rw [← h.blocks] at hx; exact mem_fst hx
theorem TabF.tab (b : Nat) (u3 : Value) : TabH b u3 (TabF b u3) := .inr rfl

theorem do_fn (b : Nat) (u3 : Value) (H0 : Heap) (hT : TabH b u3 H0) (w : World) (hst : St w [b] H0 w) :
  Does Tryz.prog 53 [.pointer (some ⟨b, 0, none⟩), (.func (.func 54) #[.pointer (some ⟨b, 0, none⟩)] #[])] w [b] (fun v H => v = .tuple #[] ∧ H = TabF b u3) := by
 refine does_of Tryz.func53 rfl rfl rfl hst ?_
 refine c_seq ?_
 rcases hT with ⟨P, B, hP, hB, rfl⟩ | rfl
 ·refine c_region ?_
  refine RL ?_
  refine RL ?_
  refine RLa ?_
  refine RLv call_86 (fun w hw => load_fn b 0 w (at_own (.head _) rfl w hw)) ?_
  refine RL ?_
  refine l_nil ?_
  refine c_true rfl ?_
  refine c_region ?_
  refine RL ?_
  refine RL ?_
  refine l_x (x_callA call_87 rfl (fun w hw => slow_fn b u3 P B hP hB w (hw.holds _ (.head _)))) rfl rfl ?_
  rintro _ _ ⟨rfl, rfl⟩
  refine l_nil ?_
  exact l_end (fun _ _ => rets_none) (List.Sublist.refl _) ⟨rfl, rfl⟩
 ·refine c_region ?_
  refine RL ?_
  refine RL ?_
  refine RLa ?_
  refine RLv call_86 (fun w hw => load_fn b 1 w (at_own (.head _) rfl w hw)) ?_
  refine RL ?_
  refine l_nil ?_
  refine c_false rfl ?_
  refine c_skip ?_
  exact l_end (fun _ _ => rets_none) (List.Sublist.refl _) ⟨rfl, rfl⟩

theorem tnew_fn (w : World) :
  Does Tryz.prog 6 [] w [] (fun v H => ∃ b, v = .pointer (some ⟨b, 0, none⟩) ∧ TabH b (.int .u32 0) H) := by
 refine does_of Tryz.func6 rfl rfl rfl (St.refl w) ?_
 refine c_seq ?_
 refine c_region ?_
 refine RL ?_
 refine l_nil ?_
 refine c_seq ?_
 refine c_region ?_
 refine l_l (light_struct (pl := [(0, 3), (3, 1280), (1283, 1280)]) (z := tabL (.int .u32 0) (.int .i32 0) (.int .u32 0) (List.replicate 256 o0) (List.replicate 256 o0)) (l := tabL (.int .u32 0) (.int .i32 0) (.int .u32 0) (List.replicate 256 o0) (List.replicate 256 o0)) (ps := []) (by kernel_rfl) (by kernel_rfl) rfl (by kernel_rfl)) rfl rfl ?_
 refine l_x (x_box rfl (l := tabL (.int .u32 0) (.int .i32 0) (.int .u32 0) (List.replicate 256 o0) (List.replicate 256 o0)) rfl) rfl rfl ?_
 rintro _ _ ⟨b2, rfl, rfl⟩
 refine RL ?_
 refine l_nil ?_
 refine c_ret ?_
 exact l_end (fun _ _ => rets_v rfl) (List.Sublist.refl _) ⟨_, rfl, .inl ⟨_, _, by simp, by simp, rfl⟩⟩

theorem decode_fn (b : Nat) (u3 : Value) (H0 : Heap) (hT : TabH b u3 H0) (a x c : Int) (ha : 0 ≤ a ∧ a < 256) (hx : 0 ≤ x ∧ x < 256) (hc : 0 ≤ c ∧ c < 256) (w : World) (hst : St w [b] H0 w) :
  Does Tryz.prog 27 [.pointer (some ⟨b, 0, none⟩), .int .u8 a, .int .u8 x, .int .u8 c] w [b] (fun v H => v = .agg (cO (dcd a x c)).toArray ∧ TabH b u3 H) := by
 obtain ⟨m, o, rfl, hm, ho⟩ := tab_some ha.1 ha.2
 obtain ⟨k, rfl⟩ : ∃ k : Nat, x = k := ⟨x.toNat, by omega⟩
 refine does_of Tryz.func27 rfl rfl rfl hst ?_
 refine c_seq ?_
 refine c_region ?_
 refine l_x (x_alloc rfl) rfl rfl ?_
 rintro _ _ ⟨b8, rfl, rfl⟩
 refine l_nil ?_
 refine c_seq ?_
 refine c_seq ?_
 refine c_region ?_
 refine RL ?_
 refine RL ?_
 refine l_nil ?_
 refine c_false rfl ?_
 refine c_skip ?_
 refine c_seq ?_
 refine c_region ?_
 refine RL ?_
 refine RL ?_
 refine RLa ?_
 refine RL ?_
 refine l_as (v := (.func (.func 54) #[.pointer (some ⟨b, 0, none⟩)] #[])) rfl rfl rfl (by simp only [List.map_toArray, List.map_cons, List.map_nil]; rfl) ?_
 refine l_heap (H' := H0 ++ [(b8, _)]) (fun _ h => St.fl [[_], H0] [1, 0] rfl (h.as rfl)) ?_
 refine l_x (x_callF (A := H0) (G := [(b8, _)]) [b] call_53 rfl hT.mem (fun w hw => do_fn b u3 H0 hT w (hT.lent hw))) rfl rfl ?_
 rintro _ _ ⟨_, ⟨rfl, rfl⟩, rfl⟩
 refine l_nil ?_
 refine c_seq ?_
 refine c_seq ?_
 refine c_region ?_
 refine RL ?_
 refine RL ?_
 refine l_nil ?_
 refine c_cond rfl (fun h1 => ?_) (fun h1 => ?_)
 ·refine c_seq ?_
  refine c_region ?_
  iterate 3 refine RL ?_
  refine RLa ?_
  refine l_l (idx_array (s := 5) k rfl rfl rfl rfl o_m) rfl rfl ?_
  refine l_x (x_loadA rfl rfl rfl (fun w hw => tabL_rowB tabP_len (row_own (.head _) w hw) (tabB_get o_m))) rfl rfl ?_
  rintro _ _ ⟨rfl, rfl⟩
  refine l_x s_t rfl rfl ?_
  rintro _ _ ⟨rfl, rfl⟩
  refine l_nil ?_
  refine c_ret ?_
  exact ends_of (H' := TabF b u3) (fun w hw => rets_cell rfl rfl rfl (row_own m_m w hw)) (fun _ h => h.sub (List.sublist_append_left _ _)) ⟨aggE (by rw [dcd_beh (by (try simp only [decide_eq_true_eq, decide_eq_false_iff_not, beq_iff_eq, beq_eq_false_iff_ne, bne_iff_ne, bne_eq_false_iff_eq, ne_eq] at *); omega)]; rfl), TabF.tab b u3⟩
 ·refine c_skip ?_
  refine c_seq ?_
  refine c_region ?_
  iterate 3 refine RL ?_
  refine RLa ?_
  refine l_l (idx_array (s := 5) m rfl rfl rfl rfl hm) rfl rfl ?_
  refine l_x (x_loadA rfl rfl rfl (fun w hw => tabL_rowP (row_own (.head _) w hw) ho)) rfl rfl ?_
  rintro _ _ ⟨rfl, rfl⟩
  refine l_x (x_alloc rfl) rfl rfl ?_
  rintro _ _ ⟨b9, rfl, rfl⟩
  refine l_x s_t rfl rfl ?_
  rintro _ _ ⟨rfl, rfl⟩
  refine l_nil ?_
  refine c_seq ?_
  refine c_seq ?_
  refine c_region ?_
  refine RLa ?_
  refine RLo ?_
  refine l_nil ?_
  refine c_block ?_
  refine c_seq ?_
  refine c_region ?_
  refine RL ?_
  refine RL ?_
  refine l_nil ?_
  refine c_cond rfl (fun h2 => ?_) (fun h2 => ?_)
  ·refine c_region ?_
   refine RL ?_
   refine l_as (v := (.int .u16 k)) rfl rfl rfl (congrArg _ (wrap_u16_id o_m o_m)) ?_
   refine RLa ?_
   refine l_x s_t rfl rfl ?_
   rintro _ _ ⟨rfl, rfl⟩
   refine l_nil ?_
   refine c_seq ?_
   refine c_region ?_
   refine l_x (x_loadA rfl rfl rfl (by first | exact row_own m_m | exact row_own_at m_m _ 5 rfl)) rfl rfl ?_
   rintro _ _ ⟨rfl, rfl⟩
   refine l_x s_t rfl rfl ?_
   rintro _ _ ⟨rfl, rfl⟩
   refine l_nil ?_
   refine c_ret ?_
   exact ends_of (H' := TabF b u3) (fun w hw => rets_cell rfl rfl rfl (row_own m_m w hw)) (fun _ h => St.fl [[_], [_], [_]] [1] rfl h) ⟨aggE (by rw [dcd_plain rfl (by (try simp only [decide_eq_true_eq, decide_eq_false_iff_not, beq_iff_eq, beq_eq_false_iff_ne, bne_iff_ne, bne_eq_false_iff_eq, ne_eq] at *); omega) ho, numO_2 (by (try simp only [decide_eq_true_eq, decide_eq_false_iff_not, beq_iff_eq, beq_eq_false_iff_ne, bne_iff_ne, bne_eq_false_iff_eq, ne_eq] at *); omega)]; rfl), TabF.tab b u3⟩
  ·refine c_seq ?_
   refine c_region ?_
   refine RL ?_
   refine RL ?_
   refine l_nil ?_
   refine c_cond rfl (fun h3 => ?_) (fun h3 => ?_)
   ·refine c_region ?_
    refine RL ?_
    refine l_as (v := (.int .u16 k)) rfl rfl rfl (congrArg _ (wrap_u16_id o_m o_m)) ?_
    refine RL ?_
    refine l_as (v := (.int .u16 c)) rfl rfl rfl (congrArg _ (wrap_u16_id o_m o_m)) ?_
    refine l_l (shl_pos rfl rfl (by decide)) rfl rfl ?_
    refine l_as (v := (.int .u16 (k + 256 * c))) rfl rfl rfl (congrArg _ (or_law hx hc)) ?_
    refine RLa ?_
    refine l_x s_t rfl rfl ?_
    rintro _ _ ⟨rfl, rfl⟩
    refine l_nil ?_
    refine c_seq ?_
    refine c_region ?_
    refine l_x (x_loadA rfl rfl rfl (by first | exact row_own m_m | exact row_own_at m_m _ 5 rfl)) rfl rfl ?_
    rintro _ _ ⟨rfl, rfl⟩
    refine l_x s_t rfl rfl ?_
    rintro _ _ ⟨rfl, rfl⟩
    refine l_nil ?_
    refine c_ret ?_
    exact ends_of (H' := TabF b u3) (fun w hw => rets_cell rfl rfl rfl (row_own m_m w hw)) (fun _ h => St.fl [[_], [_], [_]] [1] rfl h) ⟨aggE (by rw [dcd_plain rfl (by (try simp only [decide_eq_true_eq, decide_eq_false_iff_not, beq_iff_eq, beq_eq_false_iff_ne, bne_iff_ne, bne_eq_false_iff_eq, ne_eq] at *); omega) ho, numO_3 (by (try simp only [decide_eq_true_eq, decide_eq_false_iff_not, beq_iff_eq, beq_eq_false_iff_ne, bne_iff_ne, bne_eq_false_iff_eq, ne_eq] at *); omega)]; rfl), TabF.tab b u3⟩
   ·refine c_skip ?_
    refine c_seq ?_
    refine c_region ?_
    refine l_x (x_loadA rfl rfl rfl (by first | exact row_own m_m | exact row_own_at m_m _ 5 rfl)) rfl rfl ?_
    rintro _ _ ⟨rfl, rfl⟩
    refine l_x s_t rfl rfl ?_
    rintro _ _ ⟨rfl, rfl⟩
    refine l_nil ?_
    refine c_ret ?_
    exact ends_of (H' := TabF b u3) (fun w hw => rets_cell rfl rfl rfl (row_own m_m w hw)) (fun _ h => St.fl [[_], [_], [_]] [1] rfl h) ⟨aggE (by rw [dcd_plain rfl (by (try simp only [decide_eq_true_eq, decide_eq_false_iff_not, beq_iff_eq, beq_eq_false_iff_ne, bne_iff_ne, bne_eq_false_iff_eq, ne_eq] at *); omega) ho, numO_1 (by (try simp only [decide_eq_true_eq, decide_eq_false_iff_not, beq_iff_eq, beq_eq_false_iff_ne, bne_iff_ne, bne_eq_false_iff_eq, ne_eq] at *); omega) (by (try simp only [decide_eq_true_eq, decide_eq_false_iff_not, beq_iff_eq, beq_eq_false_iff_ne, bne_iff_ne, bne_eq_false_iff_eq, ne_eq] at *); omega)]; rfl), TabF.tab b u3⟩

theorem decode0_fn (a x c : Int) (w : World) :
  Does Tryz.prog 27 [.pointer none, .int .u8 a, .int .u8 x, .int .u8 c] w [] (fun v H => H = [] ∧ v = .agg (cO ⟨4, 0, 0, 1, 0⟩).toArray) := by
 refine does_of Tryz.func27 rfl rfl rfl (St.refl w) ?_
 refine c_seq ?_
 refine c_region ?_
 refine l_x (x_alloc rfl) rfl rfl ?_
 rintro _ _ ⟨b8, rfl, rfl⟩
 refine l_nil ?_
 refine c_seq ?_
 refine c_seq ?_
 refine c_region ?_
 refine RL ?_
 refine RL ?_
 refine l_nil ?_
 refine c_true rfl ?_
 refine c_seq ?_
 refine c_region ?_
 refine l_l (light_struct rfl rfl rfl rfl) rfl rfl ?_
 refine l_x s_t rfl rfl ?_
 rintro _ _ ⟨rfl, rfl⟩
 refine l_nil ?_
 refine c_ret ?_
 exact l_end0 (fun w hw => rets_cell rfl rfl rfl (row_own m_m w hw)) ⟨rfl, rfl⟩

end Go.Proofs.YtjjemehigdpboaaGreat
namespace Go.Proofs.YtjjemehigdpboaaGreat
open Go Go.VV Go.Proofs
set_option linter.unusedSimpArgs false
set_option linter.unusedVariables false
set_option maxRecDepth 100000
theorem TabH.one {b : Nat} {u3 : Value} {H : Heap} (h : TabH b u3 H) : ∃ o, H = [(b, o)] := by
 rcases h with ⟨_, _, _, _, rfl⟩ | rfl
 ·exact ⟨_, rfl⟩
 ·exact ⟨_, rfl⟩

theorem rorder_fn {β : Type} (K : BusK Tryz.prog β) (rb : Nat) {bn : Nat} (x : Rn β) (h : RunOk K.toBusO (bn + 4) x) (G : Heap) (hG : K.rep x.m G) (o : Opr) (ho : OpOk o) (p : Int) (hp : 0 ≤ p ∧ p < 65536) (w : World) (hst : St w (rb :: G.map (·.1)) ((rb, blk (cN K x.s) 77) :: G) w) : Does Tryz.prog 16 [.pointer (some ⟨rb, 0, none⟩), .agg (cO o).toArray, .int .u16 p] w (rb :: G.map (·.1)) (fun v H => v = .bool (ordT K.toBusA o p x).1 ∧ RunH K rb (ordT K.toBusA o p x).2 H) := by
 refine does_of Tryz.func16 rfl rfl rfl hst ?_
 refine c_seq ?_
 refine c_region ?_
 refine l_x (x_box (l := cO o) rfl rfl) rfl rfl ?_
 rintro _ _ ⟨b4, rfl, rfl⟩
 refine RL ?_
 refine l_nil ?_
 refine c_seq ?_
 refine c_seq ?_
 refine c_region ?_
 refine RLa ?_
 refine RLo ?_
 refine l_nil ?_
 refine c_block ?_
 refine c_seq ?_
 refine c_region ?_
 refine RL ?_
 refine RL ?_
 refine l_nil ?_
 refine c_cond rfl (fun h1 => ?_) (fun h1 => ?_)
 ·have h1n := r_f h1
  refine c_region ?_
  refine RL ?_
  refine RL ?_
  refine RLa ?_
  refine RLa ?_
  refine l_x (x_storeTo (l' := cN K { x.s with stop := true }) 1 rfl rfl rfl rfl rfl rfl (Nat.le_of_ble_eq_true rfl) rfl) rfl rfl ?_
  rintro _ _ ⟨rfl, rfl⟩
  refine c_u ?_
  refine l_nil ?_
  refine c_seq ?_
  refine c_region ?_
  refine RL ?_
  refine l_nil ?_
  refine c_ret ?_
  have e9 : ordT K.toBusA o p x = (true, ⟨{ x.s with stop := true }, x.m⟩) := by unfold ordT; rw [if_pos o_m]
  exact l_end (fun _ _ => rets_v rfl) (.cons _ (List.Sublist.refl _)) ⟨by rw [e9], G, by rw [e9], by rw [e9]; exact hG⟩
 ·have h1n := r_f h1
  refine c_seq ?_
  refine c_region ?_
  refine RL ?_
  refine RL ?_
  refine l_nil ?_
  refine c_cond rfl (fun h2 => ?_) (fun h2 => ?_)
  ·have h2n := r_f h2
   refine c_region ?_
   refine RL ?_
   refine RL ?_
   refine RLa ?_
   refine RLa ?_
   refine l_x (x_storeTo (l' := cN K { x.s with halt := true }) 1 rfl rfl rfl rfl rfl rfl (Nat.le_of_ble_eq_true rfl) rfl) rfl rfl ?_
   rintro _ _ ⟨rfl, rfl⟩
   refine c_u ?_
   refine l_nil ?_
   refine c_seq ?_
   refine c_region ?_
   refine RL ?_
   refine l_nil ?_
   refine c_ret ?_
   have e9 : ordT K.toBusA o p x = (true, ⟨{ x.s with halt := true }, x.m⟩) := by unfold ordT; rw [if_neg o_m]; rw [if_pos o_m]
   exact l_end (fun _ _ => rets_v rfl) (.cons _ (List.Sublist.refl _)) ⟨by rw [e9], G, by rw [e9], by rw [e9]; exact hG⟩
  ·have h2n := r_f h2
   refine c_seq ?_
   refine c_region ?_
   refine RL ?_
   refine RL ?_
   refine l_nil ?_
   refine c_cond rfl (fun h3 => ?_) (fun h3 => ?_)
   ·have h3n := r_f h3
    refine c_region ?_
    iterate 3 refine RL ?_
    iterate 3 refine RLa ?_
    refine l_x (x_storeTo (l' := cN K { x.s with r := { x.s.r with pc := p } }) 1 rfl rfl rfl rfl rfl rfl (Nat.le_of_ble_eq_true rfl) rfl) rfl rfl ?_
    rintro _ _ ⟨rfl, rfl⟩
    refine c_u ?_
    refine l_nil ?_
    refine c_seq ?_
    refine c_region ?_
    refine RL ?_
    refine l_nil ?_
    refine c_ret ?_
    have e9 : ordT K.toBusA o p x = (true, ⟨{ x.s with r := { x.s.r with pc := p } }, x.m⟩) := by unfold ordT; rw [if_neg o_m]; rw [if_neg o_m]; rw [if_pos o_m]; rfl
    exact l_end (fun _ _ => rets_v rfl) (.cons _ (List.Sublist.refl _)) ⟨by rw [e9], G, by rw [e9], by rw [e9]; exact hG⟩
   ·have h3n := r_f h3
    refine c_seq ?_
    refine c_region ?_
    refine RL ?_
    refine RL ?_
    refine l_nil ?_
    refine c_cond rfl (fun h4 => ?_) (fun h4 => ?_)
    ·have h4n := r_f h4
     refine c_region ?_
     refine RL ?_
     refine RL ?_
     refine RLa ?_
     refine RLa ?_
     refine l_x (x_storeTo (l' := cN K { x.s with ime := false }) 1 rfl rfl rfl rfl rfl rfl (Nat.le_of_ble_eq_true rfl) rfl) rfl rfl ?_
     rintro _ _ ⟨rfl, rfl⟩
     refine c_u ?_
     refine l_nil ?_
     refine c_seq ?_
     refine c_region ?_
     refine RL ?_
     refine l_nil ?_
     refine c_ret ?_
     have e9 : ordT K.toBusA o p x = (true, ⟨{ x.s with ime := false }, x.m⟩) := by unfold ordT; rw [if_neg o_m]; rw [if_neg o_m]; rw [if_neg o_m]; rw [if_pos o_m]
     exact l_end (fun _ _ => rets_v rfl) (.cons _ (List.Sublist.refl _)) ⟨by rw [e9], G, by rw [e9], by rw [e9]; exact hG⟩
    ·have h4n := r_f h4
     refine c_seq ?_
     refine c_region ?_
     refine RL ?_
     refine RL ?_
     refine l_nil ?_
     refine c_cond rfl (fun h5 => ?_) (fun h5 => ?_)
     ·have h5n := r_f h5
      refine c_region ?_
      refine RL ?_
      refine RL ?_
      refine RLa ?_
      refine RLa ?_
      refine l_x (x_storeTo (l' := cN K { x.s with soon := true }) 1 rfl rfl rfl rfl rfl rfl (Nat.le_of_ble_eq_true rfl) rfl) rfl rfl ?_
      rintro _ _ ⟨rfl, rfl⟩
      refine c_u ?_
      refine l_nil ?_
      refine c_seq ?_
      refine c_region ?_
      refine RL ?_
      refine l_nil ?_
      refine c_ret ?_
      have e9 : ordT K.toBusA o p x = (true, ⟨{ x.s with soon := true }, x.m⟩) := by unfold ordT; rw [if_neg o_m]; rw [if_neg o_m]; rw [if_neg o_m]; rw [if_neg o_m]; rw [if_pos o_m]
      exact l_end (fun _ _ => rets_v rfl) (.cons _ (List.Sublist.refl _)) ⟨by rw [e9], G, by rw [e9], by rw [e9]; exact hG⟩
     ·have h5n := r_f h5
      refine c_seq ?_
      rcases (show isB o.kind = true ∨ (isB o.kind = false ∧ isW o.kind = true) ∨ (isB o.kind = false ∧ isW o.kind = false ∧ isP o.kind = true) ∨ (isB o.kind = false ∧ isW o.kind = false ∧ isP o.kind = false) by cases isB o.kind <;> cases isW o.kind <;> cases isP o.kind <;> simp) with hB | ⟨hB, hW⟩ | ⟨hB, hW, hP⟩ | ⟨hB, hW, hP⟩
      ·refine c_region ?_
       refine RL ?_
       refine l_x (x_loadA rfl rfl rfl (by first | exact row_own m_m | exact row_own_at m_m _ 5 rfl)) rfl rfl ?_
       rintro _ _ ⟨rfl, rfl⟩
       refine l_x (x_callT (F := [(b4, _)]) (A := (rb, _) :: _) call_28 rfl (fun w hw => rbytes_fn K rb x (h.le o_m : RunOk K.toBusO (bn + 2) x) G hG o ho w (St.lentV hw))) rfl rfl ?_
       rintro _ _ ⟨_, ⟨rfl, G1, rfl, hG1⟩, rfl⟩
       rw [hB]
       refine RL ?_
       iterate 3 refine RLp ?_
       refine RL ?_
       refine RL ?_
       iterate 3 refine RLp ?_
       refine RL ?_
       refine RL ?_
       iterate 3 refine RLp ?_
       refine RL ?_
       refine RL ?_
       refine l_nil ?_
       refine c_ret ?_
       have e9 : ordT K.toBusA o p x = (true, effB K.toBusA o x) := by unfold ordT; rw [if_neg o_m]; rw [if_neg o_m]; rw [if_neg o_m]; rw [if_neg o_m]; rw [if_neg o_m]; rw [if_pos hB]
       exact l_end (fun _ _ => rets_v rfl) (.cons _ (List.Sublist.refl _)) ⟨by rw [e9], G1, by rw [e9]; first | done | rfl, by rw [e9]; exact hG1⟩
      ·refine c_region ?_
       refine RL ?_
       refine l_x (x_loadA rfl rfl rfl (by first | exact row_own m_m | exact row_own_at m_m _ 5 rfl)) rfl rfl ?_
       rintro _ _ ⟨rfl, rfl⟩
       refine l_x (x_callT (F := [(b4, _)]) (A := (rb, _) :: _) call_28 rfl (fun w hw => rbytes_fn K rb x (h.le o_m : RunOk K.toBusO (bn + 2) x) G hG o ho w (St.lentV hw))) rfl rfl ?_
       rintro _ _ ⟨_, ⟨rfl, G1, rfl, hG1⟩, rfl⟩
       rw [hB]
       rw [effB_no K.toBusA hB] at hG1 ⊢
       refine RL ?_
       refine RL ?_
       refine l_x (x_loadA rfl rfl rfl (by first | exact row_own m_m | exact row_own_at m_m _ 5 rfl)) rfl rfl ?_
       rintro _ _ ⟨rfl, rfl⟩
       refine l_x (x_callT (F := [(b4, _)]) (A := (rb, _) :: _) call_29 rfl (fun w hw => rwords_fn K rb x (h.le o_m : RunOk K.toBusO (bn + 3) x) G1 hG1 o ho w (St.lentV hw))) rfl rfl ?_
       rintro _ _ ⟨_, ⟨rfl, G2, rfl, hG2⟩, rfl⟩
       rw [hW]
       refine RL ?_
       refine RL ?_
       iterate 3 refine RLp ?_
       refine RL ?_
       refine RL ?_
       iterate 3 refine RLp ?_
       refine RL ?_
       refine RL ?_
       refine l_nil ?_
       refine c_ret ?_
       have e9 : ordT K.toBusA o p x = (true, effW K.toBusA o x) := by unfold ordT; rw [if_neg o_m]; rw [if_neg o_m]; rw [if_neg o_m]; rw [if_neg o_m]; rw [if_neg o_m]; rw [if_neg (by rw [hB]; decide), if_pos hW]
       exact l_end (fun _ _ => rets_v rfl) (.cons _ (List.Sublist.refl _)) ⟨by rw [e9], G2, by rw [e9]; first | done | rfl, by rw [e9]; exact hG2⟩
      ·refine c_region ?_
       refine RL ?_
       refine l_x (x_loadA rfl rfl rfl (by first | exact row_own m_m | exact row_own_at m_m _ 5 rfl)) rfl rfl ?_
       rintro _ _ ⟨rfl, rfl⟩
       refine l_x (x_callT (F := [(b4, _)]) (A := (rb, _) :: _) call_28 rfl (fun w hw => rbytes_fn K rb x (h.le o_m : RunOk K.toBusO (bn + 2) x) G hG o ho w (St.lentV hw))) rfl rfl ?_
       rintro _ _ ⟨_, ⟨rfl, G1, rfl, hG1⟩, rfl⟩
       rw [hB]
       rw [effB_no K.toBusA hB] at hG1 ⊢
       refine RL ?_
       refine RL ?_
       refine l_x (x_loadA rfl rfl rfl (by first | exact row_own m_m | exact row_own_at m_m _ 5 rfl)) rfl rfl ?_
       rintro _ _ ⟨rfl, rfl⟩
       refine l_x (x_callT (F := [(b4, _)]) (A := (rb, _) :: _) call_29 rfl (fun w hw => rwords_fn K rb x (h.le o_m : RunOk K.toBusO (bn + 3) x) G1 hG1 o ho w (St.lentV hw))) rfl rfl ?_
       rintro _ _ ⟨_, ⟨rfl, G2, rfl, hG2⟩, rfl⟩
       rw [hW]
       rw [effW_no K.toBusA hW] at hG2 ⊢
       iterate 3 refine RL ?_
       refine l_x (x_loadA rfl rfl rfl (by first | exact row_own m_m | exact row_own_at m_m _ 5 rfl)) rfl rfl ?_
       rintro _ _ ⟨rfl, rfl⟩
       refine l_x (x_callT (F := [(b4, _)]) (A := (rb, _) :: _) call_30 rfl (fun w hw => rplaces_fn K rb x (h.le o_m : RunOk K.toBusO (bn + 1) x) G2 hG2 o ho w (St.lentV hw))) rfl rfl ?_
       rintro _ _ ⟨_, ⟨rfl, G3, rfl, hG3⟩, rfl⟩
       rw [if_pos (show isP o.kind = true by rw [hP])] at hG3 ⊢
       rw [hP]
       refine RL ?_
       refine RL ?_
       iterate 3 refine RLp ?_
       refine RL ?_
       refine RL ?_
       refine l_nil ?_
       refine c_ret ?_
       have e9 : ordT K.toBusA o p x = (true, effP K.toBusA o x) := by unfold ordT; rw [if_neg o_m]; rw [if_neg o_m]; rw [if_neg o_m]; rw [if_neg o_m]; rw [if_neg o_m]; rw [if_neg (by rw [hB]; decide), if_neg (by rw [hW]; decide), if_pos hP]
       exact l_end (fun _ _ => rets_v rfl) (.cons _ (List.Sublist.refl _)) ⟨by rw [e9], G3, by rw [e9]; first | done | rfl, by rw [e9]; exact hG3⟩
      ·refine c_region ?_
       refine RL ?_
       refine l_x (x_loadA rfl rfl rfl (by first | exact row_own m_m | exact row_own_at m_m _ 5 rfl)) rfl rfl ?_
       rintro _ _ ⟨rfl, rfl⟩
       refine l_x (x_callT (F := [(b4, _)]) (A := (rb, _) :: _) call_28 rfl (fun w hw => rbytes_fn K rb x (h.le o_m : RunOk K.toBusO (bn + 2) x) G hG o ho w (St.lentV hw))) rfl rfl ?_
       rintro _ _ ⟨_, ⟨rfl, G1, rfl, hG1⟩, rfl⟩
       rw [hB]
       rw [effB_no K.toBusA hB] at hG1 ⊢
       refine RL ?_
       refine RL ?_
       refine l_x (x_loadA rfl rfl rfl (by first | exact row_own m_m | exact row_own_at m_m _ 5 rfl)) rfl rfl ?_
       rintro _ _ ⟨rfl, rfl⟩
       refine l_x (x_callT (F := [(b4, _)]) (A := (rb, _) :: _) call_29 rfl (fun w hw => rwords_fn K rb x (h.le o_m : RunOk K.toBusO (bn + 3) x) G1 hG1 o ho w (St.lentV hw))) rfl rfl ?_
       rintro _ _ ⟨_, ⟨rfl, G2, rfl, hG2⟩, rfl⟩
       rw [hW]
       rw [effW_no K.toBusA hW] at hG2 ⊢
       iterate 3 refine RL ?_
       refine l_x (x_loadA rfl rfl rfl (by first | exact row_own m_m | exact row_own_at m_m _ 5 rfl)) rfl rfl ?_
       rintro _ _ ⟨rfl, rfl⟩
       refine l_x (x_callT (F := [(b4, _)]) (A := (rb, _) :: _) call_30 rfl (fun w hw => rplaces_fn K rb x (h.le o_m : RunOk K.toBusO (bn + 1) x) G2 hG2 o ho w (St.lentV hw))) rfl rfl ?_
       rintro _ _ ⟨_, ⟨rfl, G3, rfl, hG3⟩, rfl⟩
       rw [if_neg (show ¬ isP o.kind = true by rw [hP]; decide)] at hG3 ⊢
       rw [hP]
       iterate 3 refine RL ?_
       refine l_x (x_loadA rfl rfl rfl (by first | exact row_own m_m | exact row_own_at m_m _ 5 rfl)) rfl rfl ?_
       rintro _ _ ⟨rfl, rfl⟩
       refine l_x (x_callT (F := [(b4, _)]) (A := (rb, _) :: _) call_31 rfl (fun w hw => rjump_fn K rb x (h.le o_m : RunOk K.toBusO (bn + 4) x) G3 hG3 o ho w (St.lentV hw))) rfl rfl ?_
       rintro _ _ ⟨_, ⟨rfl, G4, rfl, hG4⟩, rfl⟩
       refine RL ?_
       refine RL ?_
       refine l_nil ?_
       refine c_ret ?_
       have e9 : ordT K.toBusA o p x = (metJ o x, effJ K.toBusA o x) := by unfold ordT; rw [if_neg o_m]; rw [if_neg o_m]; rw [if_neg o_m]; rw [if_neg o_m]; rw [if_neg o_m]; rw [if_neg (by rw [hB]; decide), if_neg (by rw [hW]; decide), if_neg (by rw [hP]; decide)]
       exact l_end (fun _ _ => rets_v rfl) (.cons _ (List.Sublist.refl _)) ⟨by rw [e9], G4, by rw [e9]; first | done | rfl, by rw [e9]; exact hG4⟩

theorem low1_fn (p : Int) (hp : 0 < p ∧ p < 32) (w : World) : Does Tryz.prog 25 [.int .u8 p] w [] (fun v H => H = [] ∧ v = .int .i64 (low1 p)) := by
 refine does_of Tryz.func25 rfl rfl rfl (St.refl w) ?_
 refine c_seq ?_
 refine c_region ?_
 refine RL ?_
 refine l_nil ?_
 refine c_seq ?_
 rcases (show p = 1 ∨ p = 2 ∨ p = 3 ∨ p = 4 ∨ p = 5 ∨ p = 6 ∨ p = 7 ∨ p = 8 ∨ p = 9 ∨ p = 10 ∨ p = 11 ∨ p = 12 ∨ p = 13 ∨ p = 14 ∨ p = 15 ∨ p = 16 ∨ p = 17 ∨ p = 18 ∨ p = 19 ∨ p = 20 ∨ p = 21 ∨ p = 22 ∨ p = 23 ∨ p = 24 ∨ p = 25 ∨ p = 26 ∨ p = 27 ∨ p = 28 ∨ p = 29 ∨ p = 30 ∨ p = 31 by omega) with rfl | rfl | rfl | rfl | rfl | rfl | rfl | rfl | rfl | rfl | rfl | rfl | rfl | rfl | rfl | rfl | rfl | rfl | rfl | rfl | rfl | rfl | rfl | rfl | rfl | rfl | rfl | rfl | rfl | rfl | rfl
 ·refine c_region ?_
  refine RL ?_
  refine RL ?_
  refine l_as (l_conv rfl rfl rfl) rfl rfl (by first | exact as_i64 o_m o_m | rfl) ?_
  refine RL ?_
  refine l_nil ?_
  refine c_ret ?_
  exact l_end0 (fun _ _ => rets_v rfl) ⟨rfl, rfl⟩
 ·refine c_region ?_
  refine RL ?_
  refine RL ?_
  refine l_as (l_conv rfl rfl rfl) rfl rfl (by first | exact as_i64 o_m o_m | rfl) ?_
  refine RL ?_
  refine l_nil ?_
  refine c_ret ?_
  exact l_end0 (fun _ _ => rets_v rfl) ⟨rfl, rfl⟩
 ·refine c_region ?_
  refine RL ?_
  refine RL ?_
  refine l_as (l_conv rfl rfl rfl) rfl rfl (by first | exact as_i64 o_m o_m | rfl) ?_
  refine RL ?_
  refine l_nil ?_
  refine c_ret ?_
  exact l_end0 (fun _ _ => rets_v rfl) ⟨rfl, rfl⟩
 ·refine c_region ?_
  refine RL ?_
  refine RL ?_
  refine l_as (l_conv rfl rfl rfl) rfl rfl (by first | exact as_i64 o_m o_m | rfl) ?_
  refine RL ?_
  refine l_nil ?_
  refine c_ret ?_
  exact l_end0 (fun _ _ => rets_v rfl) ⟨rfl, rfl⟩
 ·refine c_region ?_
  refine RL ?_
  refine RL ?_
  refine l_as (l_conv rfl rfl rfl) rfl rfl (by first | exact as_i64 o_m o_m | rfl) ?_
  refine RL ?_
  refine l_nil ?_
  refine c_ret ?_
  exact l_end0 (fun _ _ => rets_v rfl) ⟨rfl, rfl⟩
 ·refine c_region ?_
  refine RL ?_
  refine RL ?_
  refine l_as (l_conv rfl rfl rfl) rfl rfl (by first | exact as_i64 o_m o_m | rfl) ?_
  refine RL ?_
  refine l_nil ?_
  refine c_ret ?_
  exact l_end0 (fun _ _ => rets_v rfl) ⟨rfl, rfl⟩
 ·refine c_region ?_
  refine RL ?_
  refine RL ?_
  refine l_as (l_conv rfl rfl rfl) rfl rfl (by first | exact as_i64 o_m o_m | rfl) ?_
  refine RL ?_
  refine l_nil ?_
  refine c_ret ?_
  exact l_end0 (fun _ _ => rets_v rfl) ⟨rfl, rfl⟩
 ·refine c_region ?_
  refine RL ?_
  refine RL ?_
  refine l_as (l_conv rfl rfl rfl) rfl rfl (by first | exact as_i64 o_m o_m | rfl) ?_
  refine RL ?_
  refine l_nil ?_
  refine c_ret ?_
  exact l_end0 (fun _ _ => rets_v rfl) ⟨rfl, rfl⟩
 ·refine c_region ?_
  refine RL ?_
  refine RL ?_
  refine l_as (l_conv rfl rfl rfl) rfl rfl (by first | exact as_i64 o_m o_m | rfl) ?_
  refine RL ?_
  refine l_nil ?_
  refine c_ret ?_
  exact l_end0 (fun _ _ => rets_v rfl) ⟨rfl, rfl⟩
 ·refine c_region ?_
  refine RL ?_
  refine RL ?_
  refine l_as (l_conv rfl rfl rfl) rfl rfl (by first | exact as_i64 o_m o_m | rfl) ?_
  refine RL ?_
  refine l_nil ?_
  refine c_ret ?_
  exact l_end0 (fun _ _ => rets_v rfl) ⟨rfl, rfl⟩
 ·refine c_region ?_
  refine RL ?_
  refine RL ?_
  refine l_as (l_conv rfl rfl rfl) rfl rfl (by first | exact as_i64 o_m o_m | rfl) ?_
  refine RL ?_
  refine l_nil ?_
  refine c_ret ?_
  exact l_end0 (fun _ _ => rets_v rfl) ⟨rfl, rfl⟩
 ·refine c_region ?_
  refine RL ?_
  refine RL ?_
  refine l_as (l_conv rfl rfl rfl) rfl rfl (by first | exact as_i64 o_m o_m | rfl) ?_
  refine RL ?_
  refine l_nil ?_
  refine c_ret ?_
  exact l_end0 (fun _ _ => rets_v rfl) ⟨rfl, rfl⟩
 ·refine c_region ?_
  refine RL ?_
  refine RL ?_
  refine l_as (l_conv rfl rfl rfl) rfl rfl (by first | exact as_i64 o_m o_m | rfl) ?_
  refine RL ?_
  refine l_nil ?_
  refine c_ret ?_
  exact l_end0 (fun _ _ => rets_v rfl) ⟨rfl, rfl⟩
 ·refine c_region ?_
  refine RL ?_
  refine RL ?_
  refine l_as (l_conv rfl rfl rfl) rfl rfl (by first | exact as_i64 o_m o_m | rfl) ?_
  refine RL ?_
  refine l_nil ?_
  refine c_ret ?_
  exact l_end0 (fun _ _ => rets_v rfl) ⟨rfl, rfl⟩
 ·refine c_region ?_
  refine RL ?_
  refine RL ?_
  refine l_as (l_conv rfl rfl rfl) rfl rfl (by first | exact as_i64 o_m o_m | rfl) ?_
  refine RL ?_
  refine l_nil ?_
  refine c_ret ?_
  exact l_end0 (fun _ _ => rets_v rfl) ⟨rfl, rfl⟩
 ·refine c_region ?_
  refine RL ?_
  refine RL ?_
  refine l_as (l_conv rfl rfl rfl) rfl rfl (by first | exact as_i64 o_m o_m | rfl) ?_
  refine RL ?_
  refine l_nil ?_
  refine c_ret ?_
  exact l_end0 (fun _ _ => rets_v rfl) ⟨rfl, rfl⟩
 ·refine c_region ?_
  refine RL ?_
  refine RL ?_
  refine l_as (l_conv rfl rfl rfl) rfl rfl (by first | exact as_i64 o_m o_m | rfl) ?_
  refine RL ?_
  refine l_nil ?_
  refine c_ret ?_
  exact l_end0 (fun _ _ => rets_v rfl) ⟨rfl, rfl⟩
 ·refine c_region ?_
  refine RL ?_
  refine RL ?_
  refine l_as (l_conv rfl rfl rfl) rfl rfl (by first | exact as_i64 o_m o_m | rfl) ?_
  refine RL ?_
  refine l_nil ?_
  refine c_ret ?_
  exact l_end0 (fun _ _ => rets_v rfl) ⟨rfl, rfl⟩
 ·refine c_region ?_
  refine RL ?_
  refine RL ?_
  refine l_as (l_conv rfl rfl rfl) rfl rfl (by first | exact as_i64 o_m o_m | rfl) ?_
  refine RL ?_
  refine l_nil ?_
  refine c_ret ?_
  exact l_end0 (fun _ _ => rets_v rfl) ⟨rfl, rfl⟩
 ·refine c_region ?_
  refine RL ?_
  refine RL ?_
  refine l_as (l_conv rfl rfl rfl) rfl rfl (by first | exact as_i64 o_m o_m | rfl) ?_
  refine RL ?_
  refine l_nil ?_
  refine c_ret ?_
  exact l_end0 (fun _ _ => rets_v rfl) ⟨rfl, rfl⟩
 ·refine c_region ?_
  refine RL ?_
  refine RL ?_
  refine l_as (l_conv rfl rfl rfl) rfl rfl (by first | exact as_i64 o_m o_m | rfl) ?_
  refine RL ?_
  refine l_nil ?_
  refine c_ret ?_
  exact l_end0 (fun _ _ => rets_v rfl) ⟨rfl, rfl⟩
 ·refine c_region ?_
  refine RL ?_
  refine RL ?_
  refine l_as (l_conv rfl rfl rfl) rfl rfl (by first | exact as_i64 o_m o_m | rfl) ?_
  refine RL ?_
  refine l_nil ?_
  refine c_ret ?_
  exact l_end0 (fun _ _ => rets_v rfl) ⟨rfl, rfl⟩
 ·refine c_region ?_
  refine RL ?_
  refine RL ?_
  refine l_as (l_conv rfl rfl rfl) rfl rfl (by first | exact as_i64 o_m o_m | rfl) ?_
  refine RL ?_
  refine l_nil ?_
  refine c_ret ?_
  exact l_end0 (fun _ _ => rets_v rfl) ⟨rfl, rfl⟩
 ·refine c_region ?_
  refine RL ?_
  refine RL ?_
  refine l_as (l_conv rfl rfl rfl) rfl rfl (by first | exact as_i64 o_m o_m | rfl) ?_
  refine RL ?_
  refine l_nil ?_
  refine c_ret ?_
  exact l_end0 (fun _ _ => rets_v rfl) ⟨rfl, rfl⟩
 ·refine c_region ?_
  refine RL ?_
  refine RL ?_
  refine l_as (l_conv rfl rfl rfl) rfl rfl (by first | exact as_i64 o_m o_m | rfl) ?_
  refine RL ?_
  refine l_nil ?_
  refine c_ret ?_
  exact l_end0 (fun _ _ => rets_v rfl) ⟨rfl, rfl⟩
 ·refine c_region ?_
  refine RL ?_
  refine RL ?_
  refine l_as (l_conv rfl rfl rfl) rfl rfl (by first | exact as_i64 o_m o_m | rfl) ?_
  refine RL ?_
  refine l_nil ?_
  refine c_ret ?_
  exact l_end0 (fun _ _ => rets_v rfl) ⟨rfl, rfl⟩
 ·refine c_region ?_
  refine RL ?_
  refine RL ?_
  refine l_as (l_conv rfl rfl rfl) rfl rfl (by first | exact as_i64 o_m o_m | rfl) ?_
  refine RL ?_
  refine l_nil ?_
  refine c_ret ?_
  exact l_end0 (fun _ _ => rets_v rfl) ⟨rfl, rfl⟩
 ·refine c_region ?_
  refine RL ?_
  refine RL ?_
  refine l_as (l_conv rfl rfl rfl) rfl rfl (by first | exact as_i64 o_m o_m | rfl) ?_
  refine RL ?_
  refine l_nil ?_
  refine c_ret ?_
  exact l_end0 (fun _ _ => rets_v rfl) ⟨rfl, rfl⟩
 ·refine c_region ?_
  refine RL ?_
  refine RL ?_
  refine l_as (l_conv rfl rfl rfl) rfl rfl (by first | exact as_i64 o_m o_m | rfl) ?_
  refine RL ?_
  refine l_nil ?_
  refine c_ret ?_
  exact l_end0 (fun _ _ => rets_v rfl) ⟨rfl, rfl⟩
 ·refine c_region ?_
  refine RL ?_
  refine RL ?_
  refine l_as (l_conv rfl rfl rfl) rfl rfl (by first | exact as_i64 o_m o_m | rfl) ?_
  refine RL ?_
  refine l_nil ?_
  refine c_ret ?_
  exact l_end0 (fun _ _ => rets_v rfl) ⟨rfl, rfl⟩
 ·refine c_region ?_
  refine RL ?_
  refine RL ?_
  refine l_as (l_conv rfl rfl rfl) rfl rfl (by first | exact as_i64 o_m o_m | rfl) ?_
  refine RL ?_
  refine l_nil ?_
  refine c_ret ?_
  exact l_end0 (fun _ _ => rets_v rfl) ⟨rfl, rfl⟩

theorem rinterrupt_fn {β : Type} (K : BusK Tryz.prog β) (rb : Nat) {bn : Nat} (x : Rn β) (h : RunOk K.toBusO (bn + 5) x) (G : Heap) (hG : K.rep x.m G) (p : Int) (hp : 0 < p ∧ p < 32) (w : World) (hst : St w (rb :: G.map (·.1)) ((rb, blk (cN K x.s) 77) :: G) w) : Does Tryz.prog 14 [.pointer (some ⟨rb, 0, none⟩), .int .u8 p] w (rb :: G.map (·.1)) (fun v H => v = .int .i64 (low1 p) ∧ RunH K rb (takeI K.toBusA p x) H) := by
 have hl9 := low1_ok p
 refine does_of Tryz.func14 rfl rfl rfl hst ?_
 refine c_seq ?_
 refine c_region ?_
 refine RL ?_
 refine l_nil ?_
 refine c_seq ?_
 refine c_region ?_
 refine RL ?_
 refine RLv call_25 (fun w hw => low1_fn p hp w) ?_
 refine RL ?_
 refine l_nil ?_
 refine c_seq ?_
 refine c_region ?_
 refine RL ?_
 refine l_x (x_callA call_13 rfl (fun w hw => ridle_fn K rb 2 (by decide) x (h.le o_m : RunOk K.toBusO (bn + 3 + 2) x) G hG w (St.lentA hw))) rfl rfl ?_
 rintro _ _ ⟨rfl, G1, rfl, hG1⟩
 refine l_nil ?_
 refine c_seq ?_
 refine c_region ?_
 iterate 3 refine RL ?_
 iterate 3 refine RLa ?_
 refine RLo ?_
 refine l_x (x_callA call_26 rfl (fun w hw => rpush_fn K rb (idles K.toBusA 2 x) (h.idleK 2) G1 hG1 x.s.r.pc h.r.pc w (St.lentA hw))) rfl rfl ?_
 rintro _ _ ⟨rfl, G2, rfl, hG2⟩
 refine l_nil ?_
 refine c_seq ?_
 refine c_region ?_
 refine RL ?_
 refine RL ?_
 refine RLa ?_
 refine RLo ?_
 refine RL ?_
 refine l_x (x_callIT (F := [(rb, _)]) (A := G2) rfl K.mA K.cA rfl (fun w hw => K.dA ((h.idleK 2).push h.r.pc).m hG2 (St.lentV hw) hl9)) rfl rfl ?_
 rintro _ _ ⟨G3, ⟨rfl, hG3⟩, rfl⟩
 refine c_u ?_
 refine l_nil ?_
 refine c_seq ?_
 refine c_region ?_
 refine RL ?_
 refine l_x (x_callA call_13 rfl (fun w hw => ridle_fn K rb 1 (by decide) ((push K.toBusA x.s.r.pc (idles K.toBusA 2 x)).mem (K.ack (low1 p) (push K.toBusA x.s.r.pc (idles K.toBusA 2 x)).m)) (((h.idleK 2).push h.r.pc).mem (K.oA ((h.idleK 2).push h.r.pc).m hl9)) G3 hG3 w (St.lentA hw))) rfl rfl ?_
 rintro _ _ ⟨rfl, G4, rfl, hG4⟩
 refine l_nil ?_
 refine c_seq ?_
 refine c_region ?_
 iterate 3 refine RL ?_
 refine RLa ?_
 refine RLa ?_
 refine l_x (x_storeTo (l' := cN K { (idles K.toBusA 1 ((push K.toBusA x.s.r.pc (idles K.toBusA 2 x)).mem (K.ack (low1 p) (push K.toBusA x.s.r.pc (idles K.toBusA 2 x)).m))).s with ime := false }) 0 rfl rfl rfl rfl rfl rfl (Nat.le_of_ble_eq_true rfl) rfl) rfl rfl ?_
 rintro _ _ ⟨rfl, rfl⟩
 refine c_u ?_
 refine RL ?_
 refine RLa ?_
 refine RLa ?_
 refine l_x (x_storeTo (l' := cN K { (idles K.toBusA 1 ((push K.toBusA x.s.r.pc (idles K.toBusA 2 x)).mem (K.ack (low1 p) (push K.toBusA x.s.r.pc (idles K.toBusA 2 x)).m))).s with ime := false, soon := false }) 0 rfl rfl rfl rfl rfl rfl (Nat.le_of_ble_eq_true rfl) rfl) rfl rfl ?_
 rintro _ _ ⟨rfl, rfl⟩
 refine c_u ?_
 refine l_nil ?_
 refine c_seq ?_
 refine c_region ?_
 refine RL ?_
 refine RL ?_
 refine l_as (l_mul rfl rfl) rfl rfl (by first | exact as_i64 o_m o_m | rfl) ?_
 refine l_as (l_add rfl rfl) rfl rfl (by first | exact as_i64 o_m o_m | rfl) ?_
 refine l_as (l_conv rfl rfl rfl) rfl rfl (by first | exact as_u16 o_m o_m | exact as_u16m _) ?_
 refine RL ?_
 iterate 3 refine RLa ?_
 refine l_x (x_storeTo (l' := cN K { (idles K.toBusA 1 ((push K.toBusA x.s.r.pc (idles K.toBusA 2 x)).mem (K.ack (low1 p) (push K.toBusA x.s.r.pc (idles K.toBusA 2 x)).m))).s with ime := false, soon := false, r := { (idles K.toBusA 1 ((push K.toBusA x.s.r.pc (idles K.toBusA 2 x)).mem (K.ack (low1 p) (push K.toBusA x.s.r.pc (idles K.toBusA 2 x)).m))).s.r with pc := 64 + 8 * low1 p } }) 0 rfl rfl rfl rfl rfl rfl (Nat.le_of_ble_eq_true rfl) rfl) rfl rfl ?_
 rintro _ _ ⟨rfl, rfl⟩
 refine c_u ?_
 refine l_nil ?_
 refine c_seq ?_
 refine c_region ?_
 refine RL ?_
 refine RL ?_
 refine l_nil ?_
 refine c_ret ?_
 exact l_end (fun _ _ => rets_v rfl) (List.Sublist.refl _) ⟨rfl, G4, rfl, hG4⟩

theorem rnext_fn {β : Type} (K : BusK Tryz.prog β) (rb : Nat) {bn : Nat} (x : Rn β) (h : RunOk K.toBusO (bn + 3) x) (G : Heap) (hG : K.rep x.m G) (tb : Nat) (u3 : Value) (oT : Obj) (hT : TabH tb u3 [(tb, oT)]) (w : World) (hst : St w (tb :: rb :: G.map (·.1)) ((tb, oT) :: (rb, blk (cN K x.s) 77) :: G) w) : Does Tryz.prog 15 [.pointer (some ⟨rb, 0, none⟩), .pointer (some ⟨tb, 0, none⟩)] w (tb :: rb :: G.map (·.1)) (fun v H => v = .agg (cO (nextT K.toBusA x).1).toArray ∧ ∃ oT', TabH tb u3 [(tb, oT')] ∧ ∃ G', H = (tb, oT') :: (rb, blk (cN K (nextT K.toBusA x).2.s) 77) :: G' ∧ K.rep (nextT K.toBusA x).2.m G') := by
 refine does_of Tryz.func15 rfl rfl rfl hst ?_
 refine c_seq ?_
 refine c_region ?_
 refine l_x (x_alloc rfl) rfl rfl ?_
 rintro _ _ ⟨b4, rfl, rfl⟩
 refine l_nil ?_
 refine c_seq ?_
 refine c_region ?_
 refine l_x (x_alloc rfl) rfl rfl ?_
 rintro _ _ ⟨b5, rfl, rfl⟩
 refine l_nil ?_
 refine c_seq ?_
 refine c_region ?_
 refine l_l (light_struct rfl rfl rfl rfl) rfl rfl ?_
 refine l_x (x_alloc rfl) rfl rfl ?_
 rintro _ _ ⟨b6, rfl, rfl⟩
 refine l_x s_t rfl rfl ?_
 rintro _ _ ⟨rfl, rfl⟩
 refine l_nil ?_
 refine c_seq ?_
 refine c_seq ?_
 refine c_region ?_
 refine RL ?_
 refine l_nil ?_
 refine c_block ?_
 refine c_loop (σ := Nat × Obj × Heap) [7, 9, 10, 11, 12, 13, 14, 15, 16, 17, 18, 19, 20, 21, 22, 23, 24, 25, 26, 27, 28, 29, 30, 31, 32, 33, 34, 35, 36, 37, 38, 39, 40, 41, 42, 43, 44, 45, 46, 47, 48] (fun s => [(7, .int .i64 s.1)]) (fun s => (b6, blk (cO (nxN K.toBusA x s.1).o) 44) :: (b5, blk ((nxN K.toBusA x s.1).b.map (.int .u8)) 91) :: (b4, blk (cO oN) 44) :: (tb, s.2.1) :: (rb, blk (cN K (nxN K.toBusA x s.1).x.s) 77) :: s.2.2) (fun s => s.1 ≤ 3 ∧ (∀ j : Nat, j < s.1 → (j : Int) < (nxN K.toBusA x j).o.size) ∧ TabH tb u3 [(tb, s.2.1)] ∧ K.rep (nxN K.toBusA x s.1).x.m s.2.2) (fun s => 3 - s.1) (0, oT, G) ?_ ?_ ?_ ?_
 ·exact ⟨Nat.zero_le _, fun j hj => absurd hj (Nat.not_lt_zero _), hT, hG⟩
 ·exact .cons rfl .nil
 ·exact fun _ h => h
 ·rintro ⟨i, oi, Gi⟩ y4 ⟨hi, hpi, hTi, hGi⟩
  dsimp only at hi hpi hTi hGi ⊢
  have hx9 := h.nx i hi
  refine c_seq ?_
  refine c_seq ?_
  refine c_region ?_
  refine RL ?_
  refine RLa ?_
  refine RLo ?_
  refine RL ?_
  refine l_nil ?_
  refine c_cond rfl (fun h1 => ?_) (fun h1 => ?_)
  ·have h1n := r_f h1
   refine c_skip ?_
   refine c_seq ?_
   refine c_block ?_
   refine c_seq ?_
   have hs9 : i < 3 := by have := hx9.sz; omega
   have hy9 := hx9.le (k := 0 + 1) o_m
   have hl9 := hx9.len
   have hb9 := byts_set hx9.by_ i hy9.x.fetch1.2
   refine c_draw _ [5, 6, 7, 8, 9, 10, 11, 12] (.step true 0 (.step true 1 (.step true 2 (.step true 3 (.step true 4 (.step true 5 (.step true 6 (.step true 7 (.step true 8 (.step true 9 (.step true 10 (.step true 11 (.step true 12 (.step false 13 (.step true 14 (.step false 15 .done)))))))))))))))) rfl (by kernel_rfl) (by kernel_rfl) (fun _ h => h) ?_
   iterate 3 refine RD ?_
   refine RDa ?_
   refine RDo ?_
   refine RD ?_
   refine RD ?_
   iterate 3 refine RDa ?_
   refine RDo ?_
   refine RD ?_
   refine RD ?_
   refine d_x rfl (x_callIT (F := [(b6, _), (b5, _), (b4, _), (tb, _), (rb, _)]) (A := Gi) rfl K.mF K.cF rfl (fun w hw => K.dF hy9.x.m hGi (St.lentV hw) hx9.x.r.pc)) rfl rfl n_h ?_
   rintro _ _ ⟨G1, ⟨rfl, hG1⟩, rfl⟩
   refine c_u ?_
   refine d_light rfl (idx_array1 i rfl rfl rfl rfl o_m) rfl rfl rfl ?_
   refine d_x rfl (x_storeTo (l' := ((nxN K.toBusA x i).b.set i (K.fetch (nxN K.toBusA x i).x.s.r.pc (nxN K.toBusA x i).x.m).1).map (.int .u8)) 1 rfl rfl rfl rfl rfl rfl (by simp [hl9]; omega) (by rw [Nat.zero_add]; exact putL_int _ o_m _)) rfl rfl n_h ?_
   rintro _ _ ⟨rfl, rfl⟩
   refine c_u ?_
   refine d_nil ?_
   refine c_seq ?_
   refine c_region ?_
   refine RL ?_
   refine RL ?_
   iterate 3 refine RLa ?_
   refine RLo ?_
   refine l_as (v := (.int .u16 (inc16 (nxN K.toBusA x i).x.s.r.pc))) (l_add rfl rfl) rfl rfl (congrArg _ (wrap_u16 _)) ?_
   refine RL ?_
   iterate 3 refine RLa ?_
   refine l_x (x_storeTo (l' := cN K { (nxN K.toBusA x i).x.s with r := { (nxN K.toBusA x i).x.s.r with pc := inc16 (nxN K.toBusA x i).x.s.r.pc } }) 4 rfl rfl rfl rfl rfl rfl (Nat.le_of_ble_eq_true rfl) rfl) rfl rfl ?_
   rintro _ _ ⟨rfl, rfl⟩
   refine c_u ?_
   refine l_nil ?_
   refine c_region ?_
   refine RL ?_
   refine l_l (by first | exact idx_array1 0 rfl rfl rfl rfl (by decide) | exact idx_slice1 0 rfl rfl rfl rfl (by decide) | exact idx_array 0 rfl rfl rfl rfl (by decide) | exact idx_slice 0 rfl rfl rfl rfl (by decide)) rfl rfl ?_
   refine l_x (x_load rfl rfl (at_own m_m (map_at (j := 0) (by simp [hl9])))) rfl rfl ?_
   rintro _ _ ⟨rfl, rfl⟩
   refine l_l (by first | exact idx_array1 1 rfl rfl rfl rfl (by decide) | exact idx_slice1 1 rfl rfl rfl rfl (by decide) | exact idx_array 1 rfl rfl rfl rfl (by decide) | exact idx_slice 1 rfl rfl rfl rfl (by decide)) rfl rfl ?_
   refine l_x (x_load rfl rfl (at_own m_m (map_at (j := 1) (by simp [hl9])))) rfl rfl ?_
   rintro _ _ ⟨rfl, rfl⟩
   refine l_l (by first | exact idx_array1 2 rfl rfl rfl rfl (by decide) | exact idx_slice1 2 rfl rfl rfl rfl (by decide) | exact idx_array 2 rfl rfl rfl rfl (by decide) | exact idx_slice 2 rfl rfl rfl rfl (by decide)) rfl rfl ?_
   refine l_x (x_load rfl rfl (at_own m_m (map_at (j := 2) (by simp [hl9])))) rfl rfl ?_
   rintro _ _ ⟨rfl, rfl⟩
   refine l_x (x_callM (F := [(b6, _), (b5, _), (b4, _)]) (A := [(tb, _)]) (G := (rb, _) :: _) [tb] call_27 rfl (fun _ hb => mem_fst (G := [(tb, _)]) hb) (fun w hw => decode_fn tb u3 _ hTi _ _ _ (hb9.get 0) (hb9.get 1) (hb9.get 2) w (hTi.lent hw))) rfl rfl ?_
   rintro _ _ ⟨HT, ⟨rfl, hT2⟩, rfl⟩
   obtain ⟨oT2, rfl⟩ := hT2.one
   refine c_u ?_
   refine l_x (x_storeTo (l' := cO (nxN K.toBusA x (i + 1)).o) 0 rfl rfl rfl rfl rfl rfl (Nat.le_of_ble_eq_true rfl) rfl) rfl rfl ?_
   rintro _ _ ⟨rfl, rfl⟩
   refine c_u ?_
   refine l_nil ?_
   refine c_region ?_
   refine RL ?_
   refine l_as (v := (.int .i64 ((i + 1 : Nat) : Int))) rfl rfl rfl (congrArg _ (succ_law o_m)) ?_
   refine RL ?_
   refine l_nil ?_
   exact ⟨(i + 1, oT2, G1), ⟨by omega, fun j hj => by rcases Nat.lt_succ_iff_lt_or_eq.1 hj with h1 | rfl; exact hpi j h1; assumption, hT2, hG1⟩, by show _ - (i + 1) < _ - i; omega, .cons rfl .nil, a_g, fun _ h => h⟩
  ·have h1n := r_f h1
   refine c_exit rfl ?_
   refine c_seq ?_
   refine c_region ?_
   refine l_x (x_loadA rfl rfl rfl (by first | exact row_own m_m | exact row_own_at m_m _ 5 rfl)) rfl rfl ?_
   rintro _ _ ⟨rfl, rfl⟩
   refine l_x s_t rfl rfl ?_
   rintro _ _ ⟨rfl, rfl⟩
   refine l_nil ?_
   refine c_ret ?_
   have e9 := nx_end K.toBusA hi hpi (by assumption)
   exact l_end (fun w hw => rets_cell rfl rfl rfl (row_own (b := b4) (l := cO (nxN K.toBusA x i).o) m_m w hw)) (.cons _ (.cons _ (.cons _ (List.Sublist.refl _)))) ⟨by rw [e9], oi, hTi, Gi, by rw [e9], by rw [e9]; exact hGi⟩

set_option maxHeartbeats 4000000 in
theorem step_fn {β : Type} (K : BusK Tryz.prog β) {bn : Nat} (s : CS) (m : β) (h : RunOk K.toBusO (bn + 7) (⟨s, m⟩ : Rn _)) (G : Heap) (hG : K.rep m G) (tb : Nat) (u3 : Value) (oT : Obj) (hT : TabH tb u3 [(tb, oT)]) (w : World) (hst : St w (tb :: G.map (·.1)) ((tb, oT) :: G) w) : Does Tryz.prog 9 [.pointer (some ⟨tb, 0, none⟩), .agg (cS s).toArray, .iface K.t0 K.v] w (tb :: G.map (·.1)) (fun v H => v = .tuple #[.agg (cS (stepT K.toBusA (⟨s, m⟩ : Rn _)).2.s).toArray, .agg (cDd (stepT K.toBusA (⟨s, m⟩ : Rn _)).1).toArray] ∧ ∃ oT', TabH tb u3 [(tb, oT')] ∧ ∃ G', H = (tb, oT') :: G' ∧ K.rep (stepT K.toBusA (⟨s, m⟩ : Rn _)).2.m G') := by
 have hp9 : 0 ≤ K.pend m ∧ K.pend m < 32 := K.oP h.m
 obtain ⟨r, ime, soon, halt, stop⟩ := s
 refine does_of Tryz.func9 rfl rfl rfl hst ?_
 refine c_seq ?_
 refine c_region ?_
 refine l_x (x_box (l := cS ⟨r, ime, soon, halt, stop⟩) rfl rfl) rfl rfl ?_
 rintro _ _ ⟨b4, rfl, rfl⟩
 refine l_x (x_alloc rfl) rfl rfl ?_
 rintro _ _ ⟨b6, rfl, rfl⟩
 refine l_x (x_alloc rfl) rfl rfl ?_
 rintro _ _ ⟨b7, rfl, rfl⟩
 refine l_nil ?_
 refine c_seq ?_
 refine c_region ?_
 refine RLa ?_
 refine RLa ?_
 refine RLo ?_
 refine l_l (light_struct rfl rfl rfl rfl) rfl rfl ?_
 refine l_x (x_alloc rfl) rfl rfl ?_
 rintro _ _ ⟨b8, rfl, rfl⟩
 refine l_x (x_storeTo (l' := cDd ⟨0, 0, r.pc, oN, false⟩) 0 rfl rfl rfl rfl rfl rfl (Nat.le_of_ble_eq_true rfl) rfl) rfl rfl ?_
 rintro _ _ ⟨rfl, rfl⟩
 refine c_u ?_
 refine l_nil ?_
 refine c_seq ?_
 refine c_seq ?_
 refine c_region ?_
 iterate 6 refine RL ?_
 refine l_nil ?_
 refine c_false rfl ?_
 refine c_skip ?_
 refine c_seq ?_
 refine c_region ?_
 refine l_x (x_loadA rfl rfl rfl (by first | exact row_own m_m | exact row_own_at m_m _ 14 rfl)) rfl rfl ?_
 rintro _ _ ⟨rfl, rfl⟩
 refine RL ?_
 refine l_l (light_struct rfl rfl rfl rfl) rfl rfl ?_
 refine l_x (x_box (l := cN K ⟨r, ime, soon, halt, stop⟩) rfl rfl) rfl rfl ?_
 rintro _ _ ⟨b27, rfl, rfl⟩
 refine l_heap (perm_down [(b8, _), (b7, _), (b6, _), (b4, _), (tb, _)]) ?_
 refine c_u ?_
 refine RL ?_
 refine l_nil ?_
 refine c_seq ?_
 refine c_seq ?_
 rcases stop with _ | _
 ·refine c_region ?_
  refine RL ?_
  refine RL ?_
  refine RLa ?_
  refine RLa ?_
  refine RLo ?_
  refine l_nil ?_
  refine c_false rfl ?_
  refine c_skip ?_
  refine c_seq ?_
  refine c_region ?_
  refine RL ?_
  refine l_x (x_callIT (F := [(b8, _), (b7, _), (b6, _), (b4, _), (tb, _), (b27, _)]) (A := G) rfl K.mP K.cP rfl (fun w hw => K.dP h.m hG (St.lentV hw))) rfl rfl ?_
  rintro _ _ ⟨GP, ⟨rfl, hGP⟩, rfl⟩
  rw [hGP]
  refine c_u ?_
  refine RL ?_
  refine l_nil ?_
  refine c_seq ?_
  refine c_keep [50, 51, 52, 53, 54, 55, 56, 57, 58] [(58, .bool (decide (halt = true ∧ K.pend m = 0)))] ?_ (fun y10 => ?_)
  ·rcases halt with _ | _
   ·refine c_region ?_
    refine RL ?_
    refine RL ?_
    refine RLa ?_
    refine RLa ?_
    refine RLo ?_
    refine RL ?_
    refine RLp ?_
    refine RLp ?_
    refine RL ?_
    refine l_nil ?_
    exact ⟨.cons (congrArg Value.bool (by rw [Bool.eq_iff_iff]; simp)) .nil, a_g, fun _ h => h⟩
   ·refine c_region ?_
    refine RL ?_
    refine RL ?_
    refine RLa ?_
    refine RLa ?_
    refine RLo ?_
    iterate 4 refine RL ?_
    refine l_nil ?_
    exact ⟨.cons (congrArg Value.bool (by rw [Bool.eq_iff_iff]; simp)) .nil, a_g, fun _ h => h⟩
  ·refine c_cond rfl (fun h1 => ?_) (fun h1 => ?_)
   ·have h1n := r_f h1
    refine c_seq ?_
    refine c_region ?_
    refine RL ?_
    refine l_x (x_callT (F := [(b8, _), (b7, _), (b6, _), (b4, _), (tb, _)]) (A := (b27, _) :: _) call_13 rfl (fun w hw => ridle_fn K b27 1 (by decide) (⟨(⟨r, ime, soon, halt, false⟩ : CS), m⟩ : Rn _) (h.le o_m : RunOk K.toBusO (0 + 1) _) G hG w (St.lentV hw))) rfl rfl ?_
    rintro _ _ ⟨_, ⟨rfl, G1, rfl, hG1⟩, rfl⟩
    refine l_nil ?_
    refine c_seq ?_
    refine c_draw [(b8, blk (cDd ⟨0, 0, r.pc, oN, false⟩) 46), (b27, blk (cN K (⟨r, ime, soon, halt, false⟩ : CS)) 77)] [4, 5] (.step true 0 (.step true 1 (.step true 2 (.step true 3 (.step true 4 (.step false 5 (.step false 6 .done))))))) rfl (by kernel_rfl) (by kernel_rfl) (fun x hx => by rcases List.mem_cons.1 hx with rfl | hx; exact m_m; obtain rfl := List.mem_singleton.1 hx; exact m_m) ?_
    refine RD ?_
    refine RD ?_
    refine RDa ?_
    refine d_loadA rfl rfl rfl rfl (fun w hw => Row.left (srow_own (l := cN K (⟨r, ime, soon, halt, false⟩ : CS)) m_m w hw)) rfl rfl ?_
    refine d_loadA rfl rfl rfl rfl (by first | exact srow_own m_m | exact srow_own_at m_m _ 9 rfl) rfl rfl ?_
    refine d_x rfl (x_storeTo (l' := cS (⟨r, ime, soon, halt, false⟩ : CS)) 2 rfl rfl rfl rfl rfl rfl (Nat.le_of_ble_eq_true rfl) rfl) rfl rfl (by first | (intro h; cases h; done) | (intro _ _ _ hK; obtain ⟨rfl, rfl⟩ := hK; exact (fun x hx => by rcases List.mem_cons.1 hx with rfl | hx; exact m_m; obtain rfl := List.mem_singleton.1 hx; exact m_m))) ?_
    rintro _ _ ⟨rfl, rfl⟩
    refine c_u ?_
    refine d_x rfl (x_storeTo (l' := cDd ⟨0, 0, r.pc, oN, false⟩) 1 rfl rfl rfl rfl rfl rfl (Nat.le_of_ble_eq_true rfl) rfl) rfl rfl (by first | (intro h; cases h; done) | (intro _ _ _ hK; obtain ⟨rfl, rfl⟩ := hK; exact (fun x hx => by rcases List.mem_cons.1 hx with rfl | hx; exact m_m; obtain rfl := List.mem_singleton.1 hx; exact m_m))) ?_
    rintro _ _ ⟨rfl, rfl⟩
    refine c_u ?_
    refine d_nil ?_
    refine c_ret ?_
    have e9 : stepT K.toBusA (⟨(⟨r, ime, soon, halt, false⟩ : CS), m⟩ : Rn _) = (⟨0, 0, r.pc, oN, false⟩, (⟨(⟨r, ime, soon, halt, false⟩ : CS), K.idle m⟩ : Rn _)) := by unfold stepT; exact (if_neg (c := false = true) (by decide)).trans (if_pos (c := halt = true ∧ K.pend m = 0) h1n)
    exact l_end (fun w hw => rets_cc rfl rfl rfl (row_own (b := b6) (l := cS (⟨r, ime, soon, halt, false⟩ : CS)) m_m w hw) rfl rfl rfl (row_own (b := b7) (l := cDd ⟨0, 0, r.pc, oN, false⟩) m_m w hw)) (.cons _ (.cons _ (.cons _ (.cons _ (.cons_cons _ (.cons _ (List.Sublist.refl _))))))) ⟨by rw [e9], oT, hT, G1, rfl, by rw [e9]; exact hG1⟩
   ·have h1n := r_f h1
    refine c_skip ?_
    refine c_seq ?_
    refine c_region ?_
    refine RL ?_
    refine RL ?_
    refine RLa ?_
    refine RLa ?_
    refine l_x (x_storeTo (l' := cN K (⟨r, ime, soon, false, false⟩ : CS)) 5 rfl rfl rfl rfl rfl rfl (Nat.le_of_ble_eq_true rfl) rfl) rfl rfl ?_
    rintro _ _ ⟨rfl, rfl⟩
    refine c_u ?_
    refine l_nil ?_
    refine c_seq ?_
    refine c_keep [70, 71, 72, 73, 74, 75, 76, 77, 78] [(78, .bool (decide (ime = true ∧ K.pend m ≠ 0)))] ?_ (fun y14 => ?_)
    ·rcases ime with _ | _
     ·refine c_region ?_
      refine RL ?_
      refine RL ?_
      refine RLa ?_
      refine RLa ?_
      refine RLo ?_
      refine RL ?_
      refine RLp ?_
      refine RLp ?_
      refine RL ?_
      refine l_nil ?_
      exact ⟨.cons (congrArg Value.bool (by rw [Bool.eq_iff_iff]; simp)) .nil, a_g, fun _ h => h⟩
     ·refine c_region ?_
      refine RL ?_
      refine RL ?_
      refine RLa ?_
      refine RLa ?_
      refine RLo ?_
      iterate 4 refine RL ?_
      refine l_nil ?_
      exact ⟨.cons (congrArg Value.bool (by rw [Bool.eq_iff_iff]; simp)) .nil, a_g, fun _ h => h⟩
    ·refine c_cond rfl (fun h2 => ?_) (fun h2 => ?_)
     ·have h2n := r_f h2
      refine c_seq ?_
      refine c_region ?_
      refine RL ?_
      refine RL ?_
      refine l_x (x_callT (F := [(b8, _), (b7, _), (b6, _), (b4, _), (tb, _)]) (A := (b27, _) :: _) call_14 rfl (fun w hw => rinterrupt_fn K b27 (⟨(⟨r, ime, soon, false, false⟩ : CS), m⟩ : Rn _) (⟨h.r, K.oL h.m o_m⟩ : RunOk K.toBusO (0 + 5) (⟨(⟨r, ime, soon, false, false⟩ : CS), m⟩ : Rn _)) G hG (K.pend m) o_m w (St.lentV hw))) rfl rfl ?_
      rintro _ _ ⟨_, ⟨rfl, G1, rfl, hG1⟩, rfl⟩
      refine RLa ?_
      refine l_x (x_storeTo (l' := cDd ⟨2, 0, r.pc, oN, false⟩) 0 rfl rfl rfl rfl rfl rfl (Nat.le_of_ble_eq_true rfl) rfl) rfl rfl ?_
      rintro _ _ ⟨rfl, rfl⟩
      refine c_u ?_
      refine RLa ?_
      refine l_x (x_storeTo (l' := cDd ⟨2, low1 (K.pend m), r.pc, oN, false⟩) 0 rfl rfl rfl rfl rfl rfl (Nat.le_of_ble_eq_true rfl) rfl) rfl rfl ?_
      rintro _ _ ⟨rfl, rfl⟩
      refine c_u ?_
      refine l_nil ?_
      refine c_seq ?_
      refine c_draw [(b8, blk (cDd ⟨2, low1 (K.pend m), r.pc, oN, false⟩) 46), (b27, blk (cN K (takeI K.toBusA (K.pend m) (⟨(⟨r, ime, soon, false, false⟩ : CS), m⟩ : Rn _)).s) 77)] [4, 5] (.step true 0 (.step true 1 (.step true 2 (.step true 3 (.step true 4 (.step false 5 (.step false 6 .done))))))) rfl (by kernel_rfl) (by kernel_rfl) (fun x hx => by rcases List.mem_cons.1 hx with rfl | hx; exact m_m; obtain rfl := List.mem_singleton.1 hx; exact m_m) ?_
      refine RD ?_
      refine RD ?_
      refine RDa ?_
      refine d_loadA rfl rfl rfl rfl (fun w hw => Row.left (srow_own (l := cN K (takeI K.toBusA (K.pend m) (⟨(⟨r, ime, soon, false, false⟩ : CS), m⟩ : Rn _)).s) m_m w hw)) rfl rfl ?_
      refine d_loadA rfl rfl rfl rfl (by first | exact srow_own m_m | exact srow_own_at m_m _ 9 rfl) rfl rfl ?_
      refine d_x rfl (x_storeTo (l' := cS (takeI K.toBusA (K.pend m) (⟨(⟨r, ime, soon, false, false⟩ : CS), m⟩ : Rn _)).s) 2 rfl rfl rfl rfl rfl rfl (Nat.le_of_ble_eq_true rfl) rfl) rfl rfl (by first | (intro h; cases h; done) | (intro _ _ _ hK; obtain ⟨rfl, rfl⟩ := hK; exact (fun x hx => by rcases List.mem_cons.1 hx with rfl | hx; exact m_m; obtain rfl := List.mem_singleton.1 hx; exact m_m))) ?_
      rintro _ _ ⟨rfl, rfl⟩
      refine c_u ?_
      refine d_x rfl (x_storeTo (l' := cDd ⟨2, low1 (K.pend m), r.pc, oN, false⟩) 1 rfl rfl rfl rfl rfl rfl (Nat.le_of_ble_eq_true rfl) rfl) rfl rfl (by first | (intro h; cases h; done) | (intro _ _ _ hK; obtain ⟨rfl, rfl⟩ := hK; exact (fun x hx => by rcases List.mem_cons.1 hx with rfl | hx; exact m_m; obtain rfl := List.mem_singleton.1 hx; exact m_m))) ?_
      rintro _ _ ⟨rfl, rfl⟩
      refine c_u ?_
      refine d_nil ?_
      refine c_ret ?_
      have e9 : stepT K.toBusA (⟨(⟨r, ime, soon, halt, false⟩ : CS), m⟩ : Rn _) = (⟨2, low1 (K.pend m), r.pc, oN, false⟩, (takeI K.toBusA (K.pend m) (⟨(⟨r, ime, soon, false, false⟩ : CS), m⟩ : Rn _))) := by unfold stepT; exact (if_neg (c := false = true) (by decide)).trans ((if_neg (c := halt = true ∧ K.pend m = 0) h1n).trans (if_pos (c := ime = true ∧ K.pend m ≠ 0) h2n))
      exact l_end (fun w hw => rets_cc rfl rfl rfl (row_own (b := b6) (l := cS (takeI K.toBusA (K.pend m) (⟨(⟨r, ime, soon, false, false⟩ : CS), m⟩ : Rn _)).s) m_m w hw) rfl rfl rfl (row_own (b := b7) (l := cDd ⟨2, low1 (K.pend m), r.pc, oN, false⟩) m_m w hw)) (.cons _ (.cons _ (.cons _ (.cons _ (.cons_cons _ (.cons _ (List.Sublist.refl _))))))) ⟨by rw [e9], oT, hT, G1, rfl, by rw [e9]; exact hG1⟩
     ·have h2n := r_f h2
      refine c_skip ?_
      refine c_seq ?_
      refine c_region ?_
      refine RL ?_
      refine RL ?_
      refine RLa ?_
      refine RLa ?_
      refine RLo ?_
      refine RL ?_
      refine l_nil ?_
      refine c_seq ?_
      refine c_region ?_
      refine RL ?_
      refine RL ?_
      refine RLa ?_
      refine RLa ?_
      refine l_x (x_storeTo (l' := cN K (⟨r, ime, false, false, false⟩ : CS)) 5 rfl rfl rfl rfl rfl rfl (Nat.le_of_ble_eq_true rfl) rfl) rfl rfl ?_
      rintro _ _ ⟨rfl, rfl⟩
      refine c_u ?_
      refine l_nil ?_
      refine c_seq ?_
      refine c_region ?_
      refine RL ?_
      refine RL ?_
      refine l_x (x_callT (F := [(b8, _), (b7, _), (b6, _), (b4, _)]) (A := (tb, _) :: (b27, _) :: _) call_15 rfl (fun w hw => rnext_fn K b27 (⟨(⟨r, ime, false, false, false⟩ : CS), m⟩ : Rn _) (⟨h.r, K.oL h.m o_m⟩ : RunOk K.toBusO (4 + 3) (⟨(⟨r, ime, false, false, false⟩ : CS), m⟩ : Rn _)) G hG tb u3 oT hT w (St.lentV hw))) rfl rfl ?_
      rintro _ _ ⟨_, ⟨rfl, oT2, hT2, G1, rfl, hG1⟩, rfl⟩
      refine c_u ?_
      refine RLa ?_
      refine l_x (x_storeTo (l' := cDd ⟨1, 0, r.pc, oN, false⟩) 0 rfl rfl rfl rfl rfl rfl (Nat.le_of_ble_eq_true rfl) rfl) rfl rfl ?_
      rintro _ _ ⟨rfl, rfl⟩
      refine c_u ?_
      refine RLa ?_
      refine l_x (x_storeTo (l' := cDd ⟨1, 0, r.pc, (nextT K.toBusA (⟨(⟨r, ime, false, false, false⟩ : CS), m⟩ : Rn _)).1, false⟩) 0 rfl rfl rfl rfl rfl rfl (Nat.le_of_ble_eq_true rfl) rfl) rfl rfl ?_
      rintro _ _ ⟨rfl, rfl⟩
      refine c_u ?_
      refine l_nil ?_
      refine c_seq ?_
      have n9 := nx_all (⟨h.r, K.oL h.m o_m⟩ : RunOk K.toBusO (4 + 3) (⟨(⟨r, ime, false, false, false⟩ : CS), m⟩ : Rn _))
      refine c_region ?_
      refine RL ?_
      refine RLa ?_
      refine l_x (x_loadA rfl rfl rfl (by first | exact row_own m_m | exact row_own_at m_m _ 5 rfl)) rfl rfl ?_
      rintro _ _ ⟨rfl, rfl⟩
      refine RLa ?_
      refine RLo ?_
      refine l_x (x_callT (F := [(b8, _), (b7, _), (b6, _), (b4, _), (tb, _)]) (A := (b27, _) :: _) call_16 rfl (fun w hw => rorder_fn K b27 (nextT K.toBusA (⟨(⟨r, ime, false, false, false⟩ : CS), m⟩ : Rn _)).2 (n9.1 : RunOk K.toBusO (0 + 4) _) G1 hG1 (nextT K.toBusA (⟨(⟨r, ime, false, false, false⟩ : CS), m⟩ : Rn _)).1 n9.2 r.pc h.r.pc w (St.lentV hw))) rfl rfl ?_
      rintro _ _ ⟨_, ⟨rfl, G2, rfl, hG2⟩, rfl⟩
      refine RLa ?_
      refine l_x (x_storeTo (l' := cDd ⟨1, 0, r.pc, (nextT K.toBusA (⟨(⟨r, ime, false, false, false⟩ : CS), m⟩ : Rn _)).1, (ordT K.toBusA (nextT K.toBusA (⟨(⟨r, ime, false, false, false⟩ : CS), m⟩ : Rn _)).1 r.pc (nextT K.toBusA (⟨(⟨r, ime, false, false, false⟩ : CS), m⟩ : Rn _)).2).1⟩) 0 rfl rfl rfl rfl rfl rfl (Nat.le_of_ble_eq_true rfl) rfl) rfl rfl ?_
      rintro _ _ ⟨rfl, rfl⟩
      refine c_u ?_
      refine l_nil ?_
      refine c_seq ?_
      refine c_keep [110, 111, 112, 113, 114, 115, 116] [(116, .bool (decide (soon = true ∧ (nextT K.toBusA (⟨(⟨r, ime, false, false, false⟩ : CS), m⟩ : Rn _)).1.kind ≠ 5)))] ?_ (fun y21 => ?_)
      ·rcases soon with _ | _
       ·refine c_region ?_
        refine RL ?_
        refine RL ?_
        iterate 4 refine RLp ?_
        refine RL ?_
        refine l_nil ?_
        exact ⟨.cons (congrArg Value.bool (by rw [Bool.eq_iff_iff]; simp)) .nil, a_g, fun _ h => h⟩
       ·refine c_region ?_
        refine RL ?_
        refine RL ?_
        refine RLa ?_
        refine RLa ?_
        refine RLo ?_
        refine RL ?_
        refine RL ?_
        refine l_nil ?_
        exact ⟨.cons (congrArg Value.bool (by rw [Bool.eq_iff_iff]; simp)) .nil, a_g, fun _ h => h⟩
      ·refine c_cond rfl (fun h3 => ?_) (fun h3 => ?_)
       ·have h3n := r_f h3
        refine c_region ?_
        refine RL ?_
        refine RL ?_
        refine RLa ?_
        refine RLa ?_
        refine l_x (x_storeTo (l' := cN K { (ordT K.toBusA (nextT K.toBusA (⟨(⟨r, ime, false, false, false⟩ : CS), m⟩ : Rn _)).1 r.pc (nextT K.toBusA (⟨(⟨r, ime, false, false, false⟩ : CS), m⟩ : Rn _)).2).2.s with ime := true }) 5 rfl rfl rfl rfl rfl rfl (Nat.le_of_ble_eq_true rfl) rfl) rfl rfl ?_
        rintro _ _ ⟨rfl, rfl⟩
        refine c_u ?_
        refine l_nil ?_
        refine c_seq ?_
        refine c_draw [(b8, blk (cDd ⟨1, 0, r.pc, (nextT K.toBusA (⟨(⟨r, ime, false, false, false⟩ : CS), m⟩ : Rn _)).1, (ordT K.toBusA (nextT K.toBusA (⟨(⟨r, ime, false, false, false⟩ : CS), m⟩ : Rn _)).1 r.pc (nextT K.toBusA (⟨(⟨r, ime, false, false, false⟩ : CS), m⟩ : Rn _)).2).1⟩) 46), (b27, blk (cN K { (ordT K.toBusA (nextT K.toBusA (⟨(⟨r, ime, false, false, false⟩ : CS), m⟩ : Rn _)).1 r.pc (nextT K.toBusA (⟨(⟨r, ime, false, false, false⟩ : CS), m⟩ : Rn _)).2).2.s with ime := true }) 77)] [4, 5] (.step true 0 (.step true 1 (.step true 2 (.step true 3 (.step true 4 (.step false 5 (.step false 6 .done))))))) rfl (by kernel_rfl) (by kernel_rfl) (fun x hx => by rcases List.mem_cons.1 hx with rfl | hx; exact m_m; obtain rfl := List.mem_singleton.1 hx; exact m_m) ?_
        refine RD ?_
        refine RD ?_
        refine RDa ?_
        refine d_loadA rfl rfl rfl rfl (fun w hw => Row.left (srow_own (l := cN K { (ordT K.toBusA (nextT K.toBusA (⟨(⟨r, ime, false, false, false⟩ : CS), m⟩ : Rn _)).1 r.pc (nextT K.toBusA (⟨(⟨r, ime, false, false, false⟩ : CS), m⟩ : Rn _)).2).2.s with ime := true }) m_m w hw)) rfl rfl ?_
        refine d_loadA rfl rfl rfl rfl (by first | exact srow_own m_m | exact srow_own_at m_m _ 9 rfl) rfl rfl ?_
        refine d_x rfl (x_storeTo (l' := cS { (ordT K.toBusA (nextT K.toBusA (⟨(⟨r, ime, false, false, false⟩ : CS), m⟩ : Rn _)).1 r.pc (nextT K.toBusA (⟨(⟨r, ime, false, false, false⟩ : CS), m⟩ : Rn _)).2).2.s with ime := true }) 2 rfl rfl rfl rfl rfl rfl (Nat.le_of_ble_eq_true rfl) rfl) rfl rfl (by first | (intro h; cases h; done) | (intro _ _ _ hK; obtain ⟨rfl, rfl⟩ := hK; exact (fun x hx => by rcases List.mem_cons.1 hx with rfl | hx; exact m_m; obtain rfl := List.mem_singleton.1 hx; exact m_m))) ?_
        rintro _ _ ⟨rfl, rfl⟩
        refine c_u ?_
        refine d_x rfl (x_storeTo (l' := cDd ⟨1, 0, r.pc, (nextT K.toBusA (⟨(⟨r, ime, false, false, false⟩ : CS), m⟩ : Rn _)).1, (ordT K.toBusA (nextT K.toBusA (⟨(⟨r, ime, false, false, false⟩ : CS), m⟩ : Rn _)).1 r.pc (nextT K.toBusA (⟨(⟨r, ime, false, false, false⟩ : CS), m⟩ : Rn _)).2).1⟩) 1 rfl rfl rfl rfl rfl rfl (Nat.le_of_ble_eq_true rfl) rfl) rfl rfl (by first | (intro h; cases h; done) | (intro _ _ _ hK; obtain ⟨rfl, rfl⟩ := hK; exact (fun x hx => by rcases List.mem_cons.1 hx with rfl | hx; exact m_m; obtain rfl := List.mem_singleton.1 hx; exact m_m))) ?_
        rintro _ _ ⟨rfl, rfl⟩
        refine c_u ?_
        refine d_nil ?_
        refine c_ret ?_
        have e9 : stepT K.toBusA (⟨(⟨r, ime, soon, halt, false⟩ : CS), m⟩ : Rn _) = (⟨1, 0, r.pc, (nextT K.toBusA (⟨(⟨r, ime, false, false, false⟩ : CS), m⟩ : Rn _)).1, (ordT K.toBusA (nextT K.toBusA (⟨(⟨r, ime, false, false, false⟩ : CS), m⟩ : Rn _)).1 r.pc (nextT K.toBusA (⟨(⟨r, ime, false, false, false⟩ : CS), m⟩ : Rn _)).2).1⟩, (⟨{ (ordT K.toBusA (nextT K.toBusA (⟨(⟨r, ime, false, false, false⟩ : CS), m⟩ : Rn _)).1 r.pc (nextT K.toBusA (⟨(⟨r, ime, false, false, false⟩ : CS), m⟩ : Rn _)).2).2.s with ime := true }, (ordT K.toBusA (nextT K.toBusA (⟨(⟨r, ime, false, false, false⟩ : CS), m⟩ : Rn _)).1 r.pc (nextT K.toBusA (⟨(⟨r, ime, false, false, false⟩ : CS), m⟩ : Rn _)).2).2.m⟩ : Rn _)) := by unfold stepT; exact (if_neg (c := false = true) (by decide)).trans ((if_neg (c := halt = true ∧ K.pend m = 0) h1n).trans ((if_neg (c := ime = true ∧ K.pend m ≠ 0) h2n).trans (congrArg (Prod.mk _) (if_pos (c := soon = true ∧ (nextT K.toBusA (⟨(⟨r, ime, false, false, false⟩ : CS), m⟩ : Rn _)).1.kind ≠ 5) h3n))))
        exact l_end (fun w hw => rets_cc rfl rfl rfl (row_own (b := b6) (l := cS { (ordT K.toBusA (nextT K.toBusA (⟨(⟨r, ime, false, false, false⟩ : CS), m⟩ : Rn _)).1 r.pc (nextT K.toBusA (⟨(⟨r, ime, false, false, false⟩ : CS), m⟩ : Rn _)).2).2.s with ime := true }) m_m w hw) rfl rfl rfl (row_own (b := b7) (l := cDd ⟨1, 0, r.pc, (nextT K.toBusA (⟨(⟨r, ime, false, false, false⟩ : CS), m⟩ : Rn _)).1, (ordT K.toBusA (nextT K.toBusA (⟨(⟨r, ime, false, false, false⟩ : CS), m⟩ : Rn _)).1 r.pc (nextT K.toBusA (⟨(⟨r, ime, false, false, false⟩ : CS), m⟩ : Rn _)).2).1⟩) m_m w hw)) (.cons _ (.cons _ (.cons _ (.cons _ (.cons_cons _ (.cons _ (List.Sublist.refl _))))))) ⟨by rw [e9], oT2, hT2, G2, rfl, by rw [e9]; exact hG2⟩
       ·have h3n := r_f h3
        refine c_skip ?_
        refine c_seq ?_
        refine c_draw [(b8, blk (cDd ⟨1, 0, r.pc, (nextT K.toBusA (⟨(⟨r, ime, false, false, false⟩ : CS), m⟩ : Rn _)).1, (ordT K.toBusA (nextT K.toBusA (⟨(⟨r, ime, false, false, false⟩ : CS), m⟩ : Rn _)).1 r.pc (nextT K.toBusA (⟨(⟨r, ime, false, false, false⟩ : CS), m⟩ : Rn _)).2).1⟩) 46), (b27, blk (cN K (ordT K.toBusA (nextT K.toBusA (⟨(⟨r, ime, false, false, false⟩ : CS), m⟩ : Rn _)).1 r.pc (nextT K.toBusA (⟨(⟨r, ime, false, false, false⟩ : CS), m⟩ : Rn _)).2).2.s) 77)] [4, 5] (.step true 0 (.step true 1 (.step true 2 (.step true 3 (.step true 4 (.step false 5 (.step false 6 .done))))))) rfl (by kernel_rfl) (by kernel_rfl) (fun x hx => by rcases List.mem_cons.1 hx with rfl | hx; exact m_m; obtain rfl := List.mem_singleton.1 hx; exact m_m) ?_
        refine RD ?_
        refine RD ?_
        refine RDa ?_
        refine d_loadA rfl rfl rfl rfl (fun w hw => Row.left (srow_own (l := cN K (ordT K.toBusA (nextT K.toBusA (⟨(⟨r, ime, false, false, false⟩ : CS), m⟩ : Rn _)).1 r.pc (nextT K.toBusA (⟨(⟨r, ime, false, false, false⟩ : CS), m⟩ : Rn _)).2).2.s) m_m w hw)) rfl rfl ?_
        refine d_loadA rfl rfl rfl rfl (by first | exact srow_own m_m | exact srow_own_at m_m _ 9 rfl) rfl rfl ?_
        refine d_x rfl (x_storeTo (l' := cS (ordT K.toBusA (nextT K.toBusA (⟨(⟨r, ime, false, false, false⟩ : CS), m⟩ : Rn _)).1 r.pc (nextT K.toBusA (⟨(⟨r, ime, false, false, false⟩ : CS), m⟩ : Rn _)).2).2.s) 2 rfl rfl rfl rfl rfl rfl (Nat.le_of_ble_eq_true rfl) rfl) rfl rfl (by first | (intro h; cases h; done) | (intro _ _ _ hK; obtain ⟨rfl, rfl⟩ := hK; exact (fun x hx => by rcases List.mem_cons.1 hx with rfl | hx; exact m_m; obtain rfl := List.mem_singleton.1 hx; exact m_m))) ?_
        rintro _ _ ⟨rfl, rfl⟩
        refine c_u ?_
        refine d_x rfl (x_storeTo (l' := cDd ⟨1, 0, r.pc, (nextT K.toBusA (⟨(⟨r, ime, false, false, false⟩ : CS), m⟩ : Rn _)).1, (ordT K.toBusA (nextT K.toBusA (⟨(⟨r, ime, false, false, false⟩ : CS), m⟩ : Rn _)).1 r.pc (nextT K.toBusA (⟨(⟨r, ime, false, false, false⟩ : CS), m⟩ : Rn _)).2).1⟩) 1 rfl rfl rfl rfl rfl rfl (Nat.le_of_ble_eq_true rfl) rfl) rfl rfl (by first | (intro h; cases h; done) | (intro _ _ _ hK; obtain ⟨rfl, rfl⟩ := hK; exact (fun x hx => by rcases List.mem_cons.1 hx with rfl | hx; exact m_m; obtain rfl := List.mem_singleton.1 hx; exact m_m))) ?_
        rintro _ _ ⟨rfl, rfl⟩
        refine c_u ?_
        refine d_nil ?_
        refine c_ret ?_
        have e9 : stepT K.toBusA (⟨(⟨r, ime, soon, halt, false⟩ : CS), m⟩ : Rn _) = (⟨1, 0, r.pc, (nextT K.toBusA (⟨(⟨r, ime, false, false, false⟩ : CS), m⟩ : Rn _)).1, (ordT K.toBusA (nextT K.toBusA (⟨(⟨r, ime, false, false, false⟩ : CS), m⟩ : Rn _)).1 r.pc (nextT K.toBusA (⟨(⟨r, ime, false, false, false⟩ : CS), m⟩ : Rn _)).2).1⟩, ((ordT K.toBusA (nextT K.toBusA (⟨(⟨r, ime, false, false, false⟩ : CS), m⟩ : Rn _)).1 r.pc (nextT K.toBusA (⟨(⟨r, ime, false, false, false⟩ : CS), m⟩ : Rn _)).2).2 : Rn _)) := by unfold stepT; exact (if_neg (c := false = true) (by decide)).trans ((if_neg (c := halt = true ∧ K.pend m = 0) h1n).trans ((if_neg (c := ime = true ∧ K.pend m ≠ 0) h2n).trans (congrArg (Prod.mk _) (if_neg (c := soon = true ∧ (nextT K.toBusA (⟨(⟨r, ime, false, false, false⟩ : CS), m⟩ : Rn _)).1.kind ≠ 5) h3n))))
        exact l_end (fun w hw => rets_cc rfl rfl rfl (row_own (b := b6) (l := cS (ordT K.toBusA (nextT K.toBusA (⟨(⟨r, ime, false, false, false⟩ : CS), m⟩ : Rn _)).1 r.pc (nextT K.toBusA (⟨(⟨r, ime, false, false, false⟩ : CS), m⟩ : Rn _)).2).2.s) m_m w hw) rfl rfl rfl (row_own (b := b7) (l := cDd ⟨1, 0, r.pc, (nextT K.toBusA (⟨(⟨r, ime, false, false, false⟩ : CS), m⟩ : Rn _)).1, (ordT K.toBusA (nextT K.toBusA (⟨(⟨r, ime, false, false, false⟩ : CS), m⟩ : Rn _)).1 r.pc (nextT K.toBusA (⟨(⟨r, ime, false, false, false⟩ : CS), m⟩ : Rn _)).2).1⟩) m_m w hw)) (.cons _ (.cons _ (.cons _ (.cons _ (.cons_cons _ (.cons _ (List.Sublist.refl _))))))) ⟨by rw [e9], oT2, hT2, G2, rfl, by rw [e9]; exact hG2⟩
 ·refine c_region ?_
  refine RL ?_
  refine RL ?_
  refine RLa ?_
  refine RLa ?_
  refine RLo ?_
  refine l_nil ?_
  refine c_true rfl ?_
  refine c_seq ?_
  refine c_region ?_
  refine RL ?_
  refine l_x (x_callT (F := [(b8, _), (b7, _), (b6, _), (b4, _), (tb, _)]) (A := (b27, _) :: _) call_13 rfl (fun w hw => ridle_fn K b27 1 (by decide) (⟨(⟨r, ime, soon, halt, true⟩ : CS), m⟩ : Rn _) (h.le o_m : RunOk K.toBusO (0 + 1) _) G hG w (St.lentV hw))) rfl rfl ?_
  rintro _ _ ⟨_, ⟨rfl, G1, rfl, hG1⟩, rfl⟩
  refine l_nil ?_
  refine c_seq ?_
  refine c_region ?_
  refine RL ?_
  refine RL ?_
  refine l_x (x_callIT (F := [(b8, _), (b7, _), (b6, _), (b4, _), (tb, _), (b27, _)]) (A := G1) rfl K.mP K.cP rfl (fun w hw => K.dP (K.oI h.m) hG1 (St.lentV hw))) rfl rfl ?_
  rintro _ _ ⟨GP, ⟨rfl, hGP⟩, rfl⟩
  rw [hGP]
  refine c_u ?_
  refine l_as (v := (.int .u8 (band .u8 (K.pend (K.idle m)) 16))) (l_and rfl rfl) rfl rfl rfl ?_
  refine l_as (v := (.bool (K.pend (K.idle m) / 16 % 2 == 0))) rfl rfl rfl (congrArg _ (wake_law (K.oP (K.oI h.m)))) ?_
  refine RL ?_
  refine RLa ?_
  refine RLa ?_
  refine l_x (x_storeTo (l' := cN K (⟨r, ime, soon, halt, (K.pend (K.idle m) / 16 % 2 == 0)⟩ : CS)) 5 rfl rfl rfl rfl rfl rfl (Nat.le_of_ble_eq_true rfl) rfl) rfl rfl ?_
  rintro _ _ ⟨rfl, rfl⟩
  refine c_u ?_
  refine l_nil ?_
  refine c_seq ?_
  refine c_draw [(b8, blk (cDd ⟨0, 0, r.pc, oN, false⟩) 46), (b27, blk (cN K (⟨r, ime, soon, halt, (K.pend (K.idle m) / 16 % 2 == 0)⟩ : CS)) 77)] [4, 5] (.step true 0 (.step true 1 (.step true 2 (.step true 3 (.step true 4 (.step false 5 (.step false 6 .done))))))) rfl (by kernel_rfl) (by kernel_rfl) (fun x hx => by rcases List.mem_cons.1 hx with rfl | hx; exact m_m; obtain rfl := List.mem_singleton.1 hx; exact m_m) ?_
  refine RD ?_
  refine RD ?_
  refine RDa ?_
  refine d_loadA rfl rfl rfl rfl (fun w hw => Row.left (srow_own (l := cN K (⟨r, ime, soon, halt, (K.pend (K.idle m) / 16 % 2 == 0)⟩ : CS)) m_m w hw)) rfl rfl ?_
  refine d_loadA rfl rfl rfl rfl (by first | exact srow_own m_m | exact srow_own_at m_m _ 9 rfl) rfl rfl ?_
  refine d_x rfl (x_storeTo (l' := cS (⟨r, ime, soon, halt, (K.pend (K.idle m) / 16 % 2 == 0)⟩ : CS)) 2 rfl rfl rfl rfl rfl rfl (Nat.le_of_ble_eq_true rfl) rfl) rfl rfl (by first | (intro h; cases h; done) | (intro _ _ _ hK; obtain ⟨rfl, rfl⟩ := hK; exact (fun x hx => by rcases List.mem_cons.1 hx with rfl | hx; exact m_m; obtain rfl := List.mem_singleton.1 hx; exact m_m))) ?_
  rintro _ _ ⟨rfl, rfl⟩
  refine c_u ?_
  refine d_x rfl (x_storeTo (l' := cDd ⟨0, 0, r.pc, oN, false⟩) 1 rfl rfl rfl rfl rfl rfl (Nat.le_of_ble_eq_true rfl) rfl) rfl rfl (by first | (intro h; cases h; done) | (intro _ _ _ hK; obtain ⟨rfl, rfl⟩ := hK; exact (fun x hx => by rcases List.mem_cons.1 hx with rfl | hx; exact m_m; obtain rfl := List.mem_singleton.1 hx; exact m_m))) ?_
  rintro _ _ ⟨rfl, rfl⟩
  refine c_u ?_
  refine d_nil ?_
  refine c_ret ?_
  have e9 : stepT K.toBusA (⟨(⟨r, ime, soon, halt, true⟩ : CS), m⟩ : Rn _) = (⟨0, 0, r.pc, oN, false⟩, (⟨(⟨r, ime, soon, halt, (K.pend (K.idle m) / 16 % 2 == 0)⟩ : CS), K.idle m⟩ : Rn _)) := by unfold stepT; exact if_pos (c := true = true) rfl
  exact l_end (fun w hw => rets_cc rfl rfl rfl (row_own (b := b6) (l := cS (⟨r, ime, soon, halt, (K.pend (K.idle m) / 16 % 2 == 0)⟩ : CS)) m_m w hw) rfl rfl rfl (row_own (b := b7) (l := cDd ⟨0, 0, r.pc, oN, false⟩) m_m w hw)) (.cons _ (.cons _ (.cons _ (.cons _ (.cons_cons _ (.cons _ (List.Sublist.refl _))))))) ⟨by rw [e9], oT, hT, G1, rfl, by rw [e9]; exact hG1⟩

end Go.Proofs.YtjjemehigdpboaaGreat
namespace Go.Proofs.YtjjemehigdpboaaGreat
open Go Go.VV Go.Proofs Go.RowKit
set_option linter.unusedSimpArgs false
set_option linter.unusedVariables false
set_option maxRecDepth 100000
theorem state_fn (s : CS) (w : World) : Does Tryz.prog 8 [.agg (cS s).toArray] w [] (fun v H => H = [] ∧ v = .agg (cS s).toArray) := by
 refine does_of Tryz.func8 rfl rfl rfl (St.refl w) ?_
 refine c_seq ?_
 refine c_region ?_
 refine l_x (x_box (l := cS s) rfl rfl) rfl rfl ?_
 rintro _ _ ⟨b1, rfl, rfl⟩
 refine l_x (x_alloc rfl) rfl rfl ?_
 rintro _ _ ⟨b2, rfl, rfl⟩
 refine l_nil ?_
 refine c_seq ?_
 refine c_region ?_
 refine RLa ?_
 refine l_x (x_loadA rfl rfl rfl (fun w hw => Row.left (row_own (l := cS s) m_m w hw))) rfl rfl ?_
 rintro _ _ ⟨rfl, rfl⟩
 refine RLa ?_
 refine RLo ?_
 refine RLa ?_
 refine RLo ?_
 refine RLa ?_
 refine RLo ?_
 refine RLa ?_
 refine RLo ?_
 refine l_l (light_struct rfl rfl rfl rfl) rfl rfl ?_
 refine l_x s_t rfl rfl ?_
 rintro _ _ ⟨rfl, rfl⟩
 refine l_nil ?_
 refine c_ret ?_
 exact l_end0 (fun w hw => rets_cell rfl rfl rfl (row_own (b := b2) (l := cS s) m_m w hw)) ⟨rfl, rfl⟩

theorem acc_eq {l k : List Ac} (h : l.length = k.length) (hj : ∀ j, j < l.length → l[j]? = k[j]?) : l = k := List.ext_getElem? fun j => by
 by_cases h1 : j < l.length
 ·exact hj j h1
 ·rw [List.getElem?_eq_none o_m, List.getElem?_eq_none o_m]
theorem lveq_ac (a b : Ac) : lveq (cAc a) (cAc b) = decide (a = b) := by
 obtain ⟨x, y, z⟩ := a
 obtain ⟨x2, y2, z2⟩ := b
 simp only [lveq, veq, cAc, Ac.mk.injEq, Bool.decide_and, Bool.and_true]
 rfl

theorem accesses_fn (l k : List Ac) (a1 a2 : Option Addr) (c1 c2 : Nat) (hl1 : l.length ≤ 1000000) (w : World) (hE1 : Els w cAc a1 l) (hE2 : Els w cAc a2 k) (hk1 : k.length ≤ 1000000) : Does Tryz.prog 12 [.slice a1 l.length c1, .slice a2 k.length c2] w [] (fun v H => H = [] ∧ v = .bool (decide (l = k))) := by
 refine does_of Tryz.func12 rfl rfl rfl (St.refl w) ?_
 refine c_seq ?_
 refine c_region ?_
 refine RL ?_
 refine l_nil ?_
 refine c_seq ?_
 refine c_seq ?_
 refine c_region ?_
 refine RL ?_
 refine l_l l_n rfl rfl ?_
 refine RL ?_
 refine l_l l_n rfl rfl ?_
 refine RL ?_
 refine l_nil ?_
 refine c_cond rfl (fun h1 => ?_) (fun h1 => ?_)
 ·have h1n := r_f h1
  refine c_seq ?_
  refine c_region ?_
  refine RL ?_
  refine l_nil ?_
  refine c_ret ?_
  exact l_end0 (fun _ _ => rets_v rfl) ⟨rfl, (congrArg Value.bool (decide_eq_false (by intro h; subst h; omega)).symm)⟩
 ·have h1n := r_f h1
  refine c_skip ?_
  refine c_seq ?_
  refine c_seq ?_
  refine c_region ?_
  refine RL ?_
  refine l_l l_n rfl rfl ?_
  refine RL ?_
  refine l_nil ?_
  refine c_block ?_
  refine c_loopk (σ := Nat) [4, 5, 13, 14, 15, 16, 17, 18, 19, 20, 21, 22, 23, 24, 25] (fun i => [(13, .int .i64 i)]) (fun i => i ≤ l.length ∧ ∀ j, j < i → l[j]? = k[j]?) (fun i => l.length - i) 0 ?_ ?_ ?_
  ·exact ⟨Nat.zero_le _, fun j hj => absurd hj (Nat.not_lt_zero _)⟩
  ·exact .cons rfl .nil
  ·rintro i y4 ⟨hi, hj9⟩
   refine c_seq ?_
   refine c_region ?_
   refine RL ?_
   refine l_nil ?_
   refine c_seq ?_
   refine c_cond rfl (fun h2 => ?_) (fun h2 => ?_)
   ·have h2n := r_f h2
    refine c_skip ?_
    refine c_seq ?_
    refine c_block ?_
    refine c_seq ?_
    refine c_region ?_
    refine RL ?_
    refine RL ?_
    refine l_nil ?_
    refine c_seq ?_
    obtain ⟨bx, ox, rfl, hrx⟩ := hE1.row (i := i) o_m
    obtain ⟨by_, oy, rfl, hry⟩ := hE2.row (i := i) o_m
    obtain ⟨x, hx⟩ : ∃ x, l[i]? = some x := ⟨_, get_some o_m⟩
    obtain ⟨y, hy⟩ : ∃ y, k[i]? = some y := ⟨_, get_some o_m⟩
    refine c_draw _ [4, 5, 6, 7] (.step true 0 (.step true 1 (.step true 2 (.step true 3 (.step true 4 (.step true 5 (.step true 6 (.step true 7 (.step true 8 .done))))))))) rfl (by kernel_rfl) (by kernel_rfl) (fun _ h => h) ?_
    refine RD ?_
    refine RD ?_
    refine d_light rfl (idx_slice (s := 3) i rfl rfl rfl rfl o_m) rfl rfl rfl ?_
    refine d_loadA rfl rfl rfl rfl (fun w hw => (srow_old hrx (by simp) w hw).nth' cAc_len hx) rfl rfl ?_
    refine RD ?_
    refine RD ?_
    refine d_light rfl (idx_slice (s := 3) i rfl rfl rfl rfl o_m) rfl rfl rfl ?_
    refine d_loadA rfl rfl rfl rfl (fun w hw => (srow_old hry (by simp) w hw).nth' cAc_len hy) rfl rfl ?_
    refine d_nes (ks := [.int .i64, .int .u16, .int .u8]) rfl rfl rfl (by kernel_rfl) (by kernel_rfl) rfl rfl rfl rfl rfl ?_
    refine d_nil ?_
    refine c_cond rfl (fun h3 => ?_) (fun h3 => ?_)
    ·have h3n := r_f h3
     refine c_seq ?_
     refine c_region ?_
     refine RL ?_
     refine l_nil ?_
     refine c_ret ?_
     have hc9 : ¬ x = y := by rw [lveq_ac] at h3; simpa using h3
     exact l_end0 (fun _ _ => rets_v rfl) ⟨rfl, (congrArg Value.bool (decide_eq_false (by intro h; rw [h, hy] at hx; cases hx; exact hc9 rfl)).symm)⟩
    ·have h3n := r_f h3
     refine c_skip ?_
     refine c_region ?_
     refine l_as (v := (.int .i64 ((i + 1 : Nat) : Int))) rfl rfl rfl (congrArg _ (succ_law o_m)) ?_
     refine RL ?_
     refine l_nil ?_
     have hc9 : x = y := by rw [lveq_ac] at h3; simpa using h3
     exact ⟨i + 1, ⟨by omega, fun j hj => by rcases Nat.lt_succ_iff_lt_or_eq.1 hj with h | rfl; exact hj9 j h; rw [hx, hy, hc9]⟩, by omega, .cons rfl .nil, a_g, fun _ h => h⟩
   ·have h2n := r_f h2
    refine c_exit rfl ?_
    refine c_seq ?_
    refine c_region ?_
    refine RL ?_
    refine l_nil ?_
    refine c_ret ?_
    exact l_end0 (fun _ _ => rets_v rfl) ⟨rfl, (congrArg Value.bool (decide_eq_true (acc_eq o_m (fun j hj => hj9 j o_m))).symm)⟩

theorem filled_fn (l : List Int) (hb : Byts l) (hl : l.length ≤ 2000) (a : Option Addr) (c : Nat) (w : World) (hN : Ns w .u8 a l) : Does Tryz.prog 7 [.slice a l.length c] w [] (fun v H => ∃ b, v = .slice (some ⟨b, 0, none⟩) 65536 65536 ∧ H = [(b, blk ((fillB l).map (.int .u8)) 5)]) := by
 refine does_of Tryz.func7 rfl rfl rfl (St.refl w) ?_
 refine c_seq ?_
 refine c_region ?_
 refine RL ?_
 refine l_nil ?_
 refine c_seq ?_
 refine c_region ?_
 refine l_x (x_make (k1 := .i64) (k2 := .i64) (el := 5) (n := 65536) (c := 65536) (a := 65536) (b := 65536) (s := 1) (z := [.int .u8 0]) ?_ ?_ ?_ ?_ ?_ ?_ ?_ ?_ ?_) ?_ ?_ ?_
 iterate 4 rfl
 ·exact Nat.le_refl _
 iterate 6 rfl
 rintro _ _ ⟨b5, rfl, rfl⟩
 rw [repL_one, upTo_zero .u8 (fillF l) 65536]
 refine RL ?_
 refine l_nil ?_
 refine c_seq ?_
 refine c_seq ?_
 refine c_region ?_
 refine RL ?_
 refine l_l l_n rfl rfl ?_
 refine RL ?_
 refine l_nil ?_
 refine c_block ?_
 refine c_loop (σ := Nat) [4, 8, 9, 10, 11, 12, 13, 14, 15, 16, 17, 18, 19, 20, 21, 22, 23, 24, 25, 26, 27] (fun i => [(8, .int .i64 i)]) (fun i => [(b5, blk (upTo .u8 (fillF l) 65536 i) 5)]) (fun i => i ≤ 65536) (fun i => 65536 - i) 0 ?_ ?_ ?_ ?_
 ·exact Nat.zero_le _
 ·exact .cons rfl .nil
 ·exact fun _ h => h
 ·intro i y3 hi
  refine c_seq ?_
  refine c_region ?_
  refine RL ?_
  refine l_nil ?_
  refine c_seq ?_
  refine c_cond rfl (fun h1 => ?_) (fun h1 => ?_)
  ·have h1n := r_f h1
   refine c_skip ?_
   refine c_seq ?_
   refine c_block ?_
   refine c_seq ?_
   refine c_region ?_
   refine RL ?_
   refine RL ?_
   refine l_nil ?_
   refine c_seq ?_
   by_cases hne9 : l = []
   ·refine c_region ?_
    refine RL ?_
    refine l_l l_n rfl rfl ?_
    refine l_sure false rfl rfl rfl (by simp [hne9]) ?_
    refine l_nil ?_
    refine c_false rfl ?_
    refine c_skip ?_
    refine c_region ?_
    refine l_as (v := (.int .i64 ((i + 1 : Nat) : Int))) rfl rfl rfl (congrArg _ (succ_law o_m)) ?_
    refine RL ?_
    refine l_nil ?_
    exact ⟨i + 1, by omega, by omega, .cons rfl .nil, a_g, fun w h => by rw [← upTo_none o_m (by unfold fillF; rw [if_pos hne9])]; exact h⟩
   ·refine c_region ?_
    refine RL ?_
    refine l_l l_n rfl rfl ?_
    refine l_sure true rfl rfl rfl (by have := List.length_pos_iff.2 hne9; simp; omega) ?_
    refine l_nil ?_
    refine c_true rfl ?_
    have hlp9 := List.length_pos_iff.2 hne9
    obtain ⟨bx, ox, rfl, hrx⟩ := hN.row (i := 0) hlp9
    obtain ⟨q9, hq9⟩ : ∃ q : Nat, q = (i + i / 256) % l.length := ⟨_, rfl⟩
    have hlt9 : q9 < l.length := hq9 ▸ Nat.mod_lt _ hlp9
    have hqi9 : ((i : Int) + (i : Int) / 256) % (l.length : Int) = (q9 : Int) := by rw [hq9, Int.natCast_emod, Int.natCast_add, Int.natCast_ediv]; rfl
    have hix9 : l.getD ((i + i / 256) % l.length) 0 = l.getD q9 0 := by rw [hq9]
    refine c_region ?_
    iterate 5 refine RL ?_
    refine l_as (v := (.int .i64 ((i : Int) / 256))) rfl rfl rfl (as_quo o_m (show _ < (9223372036854775808 : Int) by omega) (by decide)) ?_
    refine l_as (v := (.int .i64 ((i : Int) + (i : Int) / 256))) rfl rfl rfl (as_i64 o_m o_m) ?_
    refine RL ?_
    refine l_l l_n rfl rfl ?_
    refine l_as (v := (.int .i64 (q9 : Int))) (rem_pos rfl rfl o_m) rfl rfl (congrArg _ ((Int.tmod_eq_emod_of_nonneg o_m).trans hqi9)) ?_
    refine l_l (idx_slice1 q9 rfl rfl rfl rfl o_m) rfl rfl ?_
    refine l_x (x_load rfl rfl (at_old (hrx.int hlt9) (by simp))) rfl rfl ?_
    rintro _ _ ⟨rfl, rfl⟩
    refine l_l (idx_slice1 i rfl rfl rfl rfl o_m) rfl rfl ?_
    refine l_x (x_storeTo (l' := upTo .u8 (fillF l) 65536 (i + 1)) 0 rfl rfl rfl rfl rfl rfl (by rw [upTo_len o_m]; show 0 + i + 1 ≤ 65536; omega) (by rw [Nat.zero_add]; exact upTo_put o_m _ (by unfold fillF; rw [if_neg hne9, hix9]))) rfl rfl ?_
    rintro _ _ ⟨rfl, rfl⟩
    rw [List.set_cons_zero]
    refine l_nil ?_
    refine c_region ?_
    refine l_as (v := (.int .i64 ((i + 1 : Nat) : Int))) rfl rfl rfl (congrArg _ (succ_law o_m)) ?_
    refine RL ?_
    refine l_nil ?_
    exact ⟨i + 1, by omega, by omega, .cons rfl .nil, a_g, fun _ h => h⟩
  ·have h1n := r_f h1
   refine c_exit rfl ?_
   refine c_seq ?_
   refine c_region ?_
   refine RL ?_
   refine RL ?_
   refine l_nil ?_
   refine c_ret ?_
   obtain rfl : i = 65536 := by omega
   exact l_end (fun _ _ => rets_v rfl) (List.Sublist.refl _) ⟨b5, rfl, by rw [fillB_up]⟩

theorem stepR_fn (mb bb : Nat) {n : Nat} (s : CS) (m : Rm) (hs : s.r.Ok) (hm : RamOk (n + 7) m) {d : Dd} {s' : CS} {m' : Rm} (e : stepT ramA ⟨s, m⟩ = (d, ⟨s', m'⟩)) (va : Value) (Ga : Heap) (hV : Vec 89 3 va m.acc.length (flat cAc m.acc) Ga) (tb : Nat) (u3 : Value) (oT : Obj) (hT : TabH tb u3 [(tb, oT)]) (w : World) (hst : St w (((tb, oT) :: (Ga ++ [(mb, blk [.slice (some ⟨bb, 0, none⟩) 65536 65536, va] 35), (bb, blk (m.b.map (.int .u8)) 5)])).map (·.1)) ((tb, oT) :: (Ga ++ [(mb, blk [.slice (some ⟨bb, 0, none⟩) 65536 65536, va] 35), (bb, blk (m.b.map (.int .u8)) 5)])) w) : Does Tryz.prog 9 [.pointer (some ⟨tb, 0, none⟩), .agg (cS s).toArray, .iface 31 (.pointer (some ⟨mb, 0, none⟩))] w (((tb, oT) :: (Ga ++ [(mb, blk [.slice (some ⟨bb, 0, none⟩) 65536 65536, va] 35), (bb, blk (m.b.map (.int .u8)) 5)])).map (·.1)) (fun v H => v = .tuple #[.agg (cS s').toArray, .agg (cDd d).toArray] ∧ ∃ oT', TabH tb u3 [(tb, oT')] ∧ ∃ va' Ga', Vec 89 3 va' m'.acc.length (flat cAc m'.acc) Ga' ∧ H = (tb, oT') :: (Ga' ++ [(mb, blk [.slice (some ⟨bb, 0, none⟩) 65536 65536, va'] 35), (bb, blk (m'.b.map (.int .u8)) 5)])) := by
 refine Does.mono (step_fn (ramK mb bb) s m ⟨hs, hm⟩ _ ⟨va, Ga, hV, rfl⟩ tb u3 oT hT w hst) ?_
 rintro v H ⟨h1, oT', h2, G', rfl, va', Ga', h3, rfl⟩
 rw [show stepT (ramK mb bb).toBusA ⟨s, m⟩ = (d, ⟨s', m'⟩) from e] at h1 h3 ⊢
 exact ⟨h1, oT', h2, va', Ga', h3, rfl⟩

theorem awake_fn (w : World) : Does Tryz.prog 5 [] w [] (fun v H => H = [] ∧ v = .bool true) := by
 obtain ⟨z, hz1, hz2, hz3, hz4⟩ := zero_bytes
 have he := awake_law (b := (z.set 256 62).set 257 18) (by rw [at_other (by decide), at_same (a := 256) o_m (by decide)]) (at_same (a := 257) (by simp; omega) (by decide))
 refine does_of Tryz.func5 rfl rfl rfl (St.refl w) ?_
 refine c_seq ?_
 refine c_region ?_
 refine RL ?_
 refine l_nil ?_
 refine c_seq ?_
 refine c_region ?_
 refine l_x (x_make (k1 := .i64) (k2 := .i64) (el := 5) (n := 65536) (c := 65536) (a := 65536) (b := 65536) (s := 1) (z := [.int .u8 0]) ?_ ?_ ?_ ?_ ?_ ?_ ?_ ?_ ?_) ?_ ?_ ?_
 iterate 4 rfl
 ·exact Nat.le_refl _
 iterate 6 rfl
 rintro _ _ ⟨b4, rfl, rfl⟩
 rw [hz4]
 refine l_l (light_struct rfl rfl rfl rfl) rfl rfl ?_
 refine l_x (x_box (l := [.slice (some ⟨b4, 0, none⟩) 65536 65536, .slice none 0 0]) rfl rfl) rfl rfl ?_
 rintro _ _ ⟨b6, rfl, rfl⟩
 refine RL ?_
 refine l_nil ?_
 refine c_seq ?_
 refine c_draw _ [4, 5, 6, 7] (.step true 0 (.step true 1 (.step true 2 (.step true 3 (.step true 4 (.step true 5 (.step true 6 (.step true 7 (.step true 8 (.step false 9 (.step true 10 (.step false 11 .done)))))))))))) rfl (by kernel_rfl) (by kernel_rfl) (fun _ h => h) ?_
 refine RD ?_
 refine RD ?_
 refine RDa ?_
 refine RDo ?_
 refine RD ?_
 refine RD ?_
 refine RDa ?_
 refine RDo ?_
 refine d_light rfl (by first | exact idx_array1 256 rfl rfl rfl rfl (by decide) | exact idx_slice1 256 rfl rfl rfl rfl (by decide) | exact idx_array 256 rfl rfl rfl rfl (by decide) | exact idx_slice 256 rfl rfl rfl rfl (by decide)) rfl rfl rfl ?_
 refine d_x rfl (x_storeTo (l' := ((z).set 256 62).map (.int .u8)) 1 rfl rfl rfl rfl rfl rfl (store_fits (by simp [hz1]) 256 (by decide)) (store_in (by simp [hz1]) 256 (by decide) _)) rfl rfl n_h ?_
 rintro _ _ ⟨rfl, rfl⟩
 refine c_u ?_
 refine d_light rfl (by first | exact idx_array1 257 rfl rfl rfl rfl (by decide) | exact idx_slice1 257 rfl rfl rfl rfl (by decide) | exact idx_array 257 rfl rfl rfl rfl (by decide) | exact idx_slice 257 rfl rfl rfl rfl (by decide)) rfl rfl rfl ?_
 refine d_x rfl (x_storeTo (l' := ((z.set 256 62).set 257 18).map (.int .u8)) 1 rfl rfl rfl rfl rfl rfl (store_fits (by simp [hz1]) 257 (by decide)) (store_in (by simp [hz1]) 257 (by decide) _)) rfl rfl n_h ?_
 rintro _ _ ⟨rfl, rfl⟩
 refine c_u ?_
 refine d_nil ?_
 refine c_seq ?_
 refine c_region ?_
 refine l_x (x_call call_6 rfl (fun w hw => tnew_fn w)) rfl rfl ?_
 rintro _ _ ⟨GT, ⟨tb, rfl, hT⟩, rfl⟩
 obtain ⟨oT, rfl⟩ := hT.one
 refine l_heap (fun _ h => h) ?_
 refine l_l (light_struct rfl rfl rfl rfl) rfl rfl ?_
 refine l_l (light_struct rfl rfl rfl rfl) rfl rfl ?_
 refine RL ?_
 refine RL ?_
 refine l_x (x_callT (F := []) (A := (_, _) :: (_ ++ [_, _])) call_9 rfl (fun w hw => stepR_fn b6 b4 (n := 0) sAw ⟨(z.set 256 62).set 257 18, []⟩ ⟨by decide, by decide, by decide, by decide, by decide, by decide, by decide, by decide, by decide, by decide⟩ ⟨by simp [hz1], byts_set (byts_set hz3 _ (by decide)) _ (by decide), show 0 + (0 + 7) ≤ 1000000 by decide, fun _ h => by cases h⟩ he (.slice none 0 0) [] .nil tb _ oT hT w (St.lentV hw))) rfl rfl ?_
 rintro _ _ ⟨_, ⟨rfl, oT2, hT2, va2, Ga2, hV2, rfl⟩, rfl⟩
 obtain ⟨a2, c2, rfl⟩ := hV2.slice
 iterate 3 refine RL ?_
 refine l_x (x_alloc rfl) rfl rfl ?_
 rintro _ _ ⟨b2, rfl, rfl⟩
 refine l_x (x_alloc rfl) rfl rfl ?_
 rintro _ _ ⟨b3, rfl, rfl⟩
 refine l_x s_t rfl rfl ?_
 rintro _ _ ⟨rfl, rfl⟩
 refine l_x s_t rfl rfl ?_
 rintro _ _ ⟨rfl, rfl⟩
 refine l_nil ?_
 refine c_seq ?_
 refine c_region ?_
 refine RLa ?_
 refine RLa ?_
 refine RLo ?_
 refine l_sure true rfl rfl rfl rfl ?_
 refine RL ?_
 refine RLa ?_
 refine RLa ?_
 refine RLo ?_
 refine l_sure true rfl rfl rfl rfl ?_
 iterate 4 refine RL ?_
 refine RLa ?_
 refine RLo ?_
 refine l_l l_n rfl rfl ?_
 refine l_sure true rfl rfl rfl rfl ?_
 refine RL ?_
 refine RL ?_
 refine RLa ?_
 refine RLo ?_
 refine l_sure true rfl rfl rfl rfl ?_
 refine RL ?_
 refine RL ?_
 refine l_nil ?_
 refine c_ret ?_
 exact l_end0 (fun _ _ => rets_v rfl) ⟨rfl, rfl⟩

end Go.Proofs.YtjjemehigdpboaaGreat
namespace Go.Proofs.YtjjemehigdpboaaGreat
open Go Go.VV
section
variable {β : Type} {K : BusO β} {x : Rn β} {n : Nat}
theorem CR.Ok.h_ {r : CR} (h : r.Ok) {v : Bool × Bool × Bool × Bool} : (⟨r, v.1, v.2.1, v.2.2.1, v.2.2.2⟩ : CS).r.Ok := h
theorem change_ok (h : RunOk K (n + 2) x) (k : Int) {g : Int → Int → Int × Int} (hg : ∀ a f, 0 ≤ a ∧ a < 256 → 0 ≤ f ∧ f < 256 → (0 ≤ (g a f).1 ∧ (g a f).1 < 256) ∧ (0 ≤ (g a f).2 ∧ (g a f).2 < 256)) : RunOk K n (change K.toBusA k g x) := by
  have h1 := h.gett k
  have h2 := hg _ _ h1.2 h1.1.r.f
  have h3 := RunOk.sett h1.1 k h2.1
  exact h3.reg (h3.r.f_ h2.2)
theorem ite_ok {c : Prop} [Decidable c] {a b : Rn β} (h1 : RunOk K n a) (h2 : RunOk K n b) : RunOk K n (if c then a else b) := by split <;> assumption
theorem effB_ok (h : RunOk K (n + 2) x) {o : Opr} (ho : OpOk o) : RunOk K n (effB K.toBusA o x) := by
  have h0 := h.le (k := n) (by omega)
  have h1 := h.le (k := n + 1) (by omega)
  have gy := h1.gett o.y
  have gy2 := h.gett o.y
  have hn : 0 ≤ o.n % 256 ∧ o.n % 256 < 256 := by omega
  have hb := bits_ok gy.2 ho.x
  have fb := fun z n h c => fl_byte z n h c
  unfold effB
  refine ite_ok (RunOk.sett gy2.1 _ gy.2) ?_
  refine ite_ok (h1.sett _ hn) ?_
  refine ite_ok (gy.1.reg (sum_ok gy.1.r _)) ?_
  refine ite_ok (h0.reg (sum_ok h.r _)) ?_
  refine ite_ok (change_ok h _ fun a f _ _ => ⟨incR_ok, fb _ _ _ _⟩) ?_
  refine ite_ok (change_ok h _ fun a f _ _ => ⟨decR_ok, fb _ _ _ _⟩) ?_
  refine ite_ok (change_ok h _ fun a f ha _ => ⟨turnR_ok ha, fb _ _ _ _⟩) ?_
  refine ite_ok (h0.reg ((h.r.a_ (turnR_ok h.r.a)).f_ (fb _ _ _ _))) ?_
  refine ite_ok (gy.1.reg (gy.1.r.f_ (fb _ _ _ _))) ?_
  refine ite_ok (RunOk.sett gy2.1 _ hb.1) ?_
  refine ite_ok (RunOk.sett gy2.1 _ hb.2) ?_
  refine ite_ok (h0.reg ((h.r.a_ daaR_ok).f_ (fb _ _ _ _))) ?_
  refine ite_ok (h0.reg ((h.r.a_ (w := 255 - x.s.r.a) (by have := h.r.a; omega)).f_ (fb _ _ _ _))) ?_
  refine ite_ok (h0.reg (h.r.f_ (fb _ _ _ _))) ?_
  refine ite_ok (h0.reg (h.r.f_ (fb _ _ _ _))) ?_
  exact h0
theorem effW_ok (h : RunOk K (n + 3) x) {o : Opr} (ho : OpOk o) : RunOk K n (effW K.toBusA o x) := by
  have h0 := h.le (k := n) (by omega)
  have h1 := h.le (k := n + 1) (by omega)
  have h2 := h.le (k := n + 2) (by omega)
  have fb := fun z n h c => fl_byte z n h c
  have hs := h.r.sp
  unfold effW
  repeat' split
  · exact h0.reg (h.r.setP _ ho.n)
  · exact RunOk.idleK 1 (h1.reg (h.r.setP _ inc16_ok))
  · exact RunOk.idleK 1 (h1.reg (h.r.setP _ dec16_ok))
  · exact RunOk.idleK 1 (h1.reg ((h.r.f_ (fb _ _ _ _)).setP _ add16R_ok))
  · exact RunOk.idleK 2 (h2.reg ((h.r.sp_ shR_ok).f_ (fb _ _ _ _)))
  · exact RunOk.idleK 1 (h1.reg ((h.r.f_ (fb _ _ _ _)).setP _ shR_ok))
  · exact RunOk.idleK 1 (h1.reg (h.r.sp_ (pairR_word h.r _)))
  · exact RunOk.push (h.idleK 1) (pairR_word (h.idleK 1).r _)
  · exact h2.pop.1.reg (h2.pop.1.r.setP _ h2.pop.2)
  · exact h0.mem (K.oW (K.oW h2.m ho.n (by omega)) inc16_ok (by omega))
  · exact h0
theorem place_ok (h : RunOk K n x) {o : Opr} (ho : OpOk o) : RunOk K n (place o x).2 ∧ 0 ≤ (place o x).1 ∧ (place o x).1 < 65536 := by
  have hc := h.r.c
  unfold place
  repeat' split
  · exact h.far _
  · exact ⟨h, by dsimp only; omega, by dsimp only; omega⟩
  · exact ⟨h, by dsimp only; omega, by dsimp only; omega⟩
  · exact ⟨h, ho.n⟩
theorem effP_ok (h : RunOk K (n + 1) x) {o : Opr} (ho : OpOk o) : RunOk K n (effP K.toBusA o x) := by
  have hp := place_ok h ho
  unfold effP
  dsimp only
  split
  · have := K.oR hp.1.m hp.2
    exact ⟨hp.1.r.a_ this.2, this.1⟩
  · exact hp.1.mem (K.oW hp.1.m hp.2 hp.1.r.a)
theorem effJ_ok (h : RunOk K (n + 4) x) {o : Opr} (ho : OpOk o) : RunOk K n (effJ K.toBusA o x) := by
  have hx : RunOk K (n + 3) (if o.kind = 26 ∧ o.x ≠ 4 then idles K.toBusA 1 x else x) := by
    split
    · exact h.idleK 1
    · exact h.le (by omega)
  unfold effJ
  dsimp only
  generalize (if o.kind = 26 ∧ o.x ≠ 4 then idles K.toBusA 1 x else x) = y at hx ⊢
  have h1 := hx.idleK 1
  have hg : ∀ {k : Nat} {z : Rn β} {w : Int}, RunOk K k z → 0 ≤ w ∧ w < 65536 → RunOk K k (goto w z) := fun hz hw => hz.reg (hz.r.pc_ hw)
  repeat' split
  · exact hx.le (by omega)
  · exact hg (h1.le (by omega)) (by omega)
  · exact hg (h1.le (by omega)) ho.n
  · exact hg (RunOk.push h1 hx.r.pc) ho.n
  · have hq : RunOk K (n + 1 + 2) ⟨{ y.s with ime := true }, y.m⟩ := ⟨hx.r, hx.m⟩
    exact RunOk.idleK 1 (hg hq.pop.1 hq.pop.2)
  · have hq : RunOk K (n + 1 + 2) y := hx
    exact RunOk.idleK 1 (hg hq.pop.1 hq.pop.2)
  · exact hg (hx.le (by omega)) (pairR_word hx.r 2)
  · exact hx.le (by omega)
theorem ordT_ok (h : RunOk K (n + 4) x) {o : Opr} (ho : OpOk o) {p : Int} (hp : 0 ≤ p ∧ p < 65536) : RunOk K n (ordT K.toBusA o p x).2 := by
  have h0 := h.le (k := n) (by omega)
  unfold ordT
  repeat' split
  · exact ⟨h.r, h0.m⟩
  · exact ⟨h.r, h0.m⟩
  · exact h0.reg (h.r.pc_ hp)
  · exact ⟨h.r, h0.m⟩
  · exact ⟨h.r, h0.m⟩
  · exact effB_ok (h.le (by omega)) ho
  · exact effW_ok (h.le (by omega)) ho
  · exact effP_ok (h.le (by omega)) ho
  · exact effJ_ok h ho
theorem takeI_ok (h : RunOk K (n + 5) x) (p : Int) : RunOk K n (takeI K.toBusA p x) := by
  have h1 := RunOk.push (n := n + 1) (h.idleK 2) h.r.pc
  have hl := low1_ok p
  have h2 := RunOk.idleK (n := n) 1 (h1.mem (K.oA h1.m hl))
  exact ⟨h2.r.pc_ (by omega), h2.m⟩
theorem step_ok (h : RunOk K (n + 7) x) : RunOk K n (stepT K.toBusA x).2 := by
  have h0 := h.le (k := n) (by omega)
  have h1 := h.le (k := n + 1) (by omega)
  unfold stepT
  dsimp only
  repeat' split
  · exact ⟨h.r, K.oI h1.m⟩
  · exact h0.mem (K.oI h1.m)
  · exact takeI_ok (n := n) (x := ⟨{ x.s with halt := false }, x.m⟩) ⟨h.r, K.oL h.m (by omega)⟩ _
  all_goals
    have hq := nx_all (n := n + 4) (K := K) (x := ⟨{ x.s with halt := false, soon := false }, x.m⟩) ⟨h.r, h.m⟩
    have ho := ordT_ok hq.1 hq.2 h.r.pc
    first | exact ho | exact ⟨ho.r, ho.m⟩
/-- So many steps. -/
def stepN (A : BusA β) (x : Rn β) : Nat → Rn β
  | 0 => x
  | i + 1 => (stepT A (stepN A x i)).2
theorem stepN_ok {N : Nat} (h : RunOk K (n + 7 * N) x) : ∀ i, i ≤ N → RunOk K (n + 7 * (N - i)) (stepN K.toBusA x i)
  | 0, _ => h
  | i + 1, hi => step_ok ((stepN_ok h i (by omega)).le (by omega))
end
end Go.Proofs.YtjjemehigdpboaaGreat
