/- The table is filled. -/
import Derived.Test.YtmihilhmdcndfaaOpsP
import Derived.Test.YtmihilhmdcndfaaProg
import Derived.Test.YtmihilhmdcndfaaCalls
namespace Go.Proofs.Ytmihilhmdcndfaa
open Go Go.VV Go.Proofs
set_option linter.unusedSimpArgs false
set_option linter.unusedVariables false
set_option maxRecDepth 100000
set_option maxHeartbeats 4000000 in
theorem plans_fn (w : World) :
    Does Try.prog 38 [] w [] (fun v H => ∃ b L G, v = .slice (some ⟨b, 0, none⟩) 41 41 ∧ H = (b, blk (flat cPl L) 69) :: G ∧ L.length = 41 ∧ PlsOk G L PL) := by
  refine does_of Try.func38 rfl rfl rfl (St.refl w) ?_
  refine c_seq ?_
  refine c_region ?_
  refine l_l rfl rfl rfl ?_
  refine l_nil ?_
  refine c_seq ?_
  refine c_region ?_
  refine l_x (x_slc (z := [.int .i64 0]) (l := [.int .i64 0, .int .i64 1, .int .i64 2, .int .i64 3, .int .i64 4, .int .i64 5, .int .i64 6, .int .i64 7]) (ps := [(0, .int .i64 0), (1, .int .i64 1), (2, .int .i64 2), (3, .int .i64 3), (4, .int .i64 4), (5, .int .i64 5), (6, .int .i64 6), (7, .int .i64 7)]) rfl rfl rfl rfl (by kernel_rfl) (by kernel_rfl)) rfl rfl ?_
  rintro _ _ ⟨b4, rfl, rfl⟩
  refine l_l rfl rfl rfl ?_
  refine l_nil ?_
  refine c_seq ?_
  refine c_region ?_
  refine l_x (x_slc (z := [.int .i64 0]) (l := [.int .i64 0, .int .i64 1, .int .i64 2, .int .i64 3]) (ps := [(0, .int .i64 0), (1, .int .i64 1), (2, .int .i64 2), (3, .int .i64 3)]) rfl rfl rfl rfl (by kernel_rfl) (by kernel_rfl)) rfl rfl ?_
  rintro _ _ ⟨b5, rfl, rfl⟩
  refine l_x (x_slc (z := [.int .i64 0]) (l := [.int .i64 0, .int .i64 1, .int .i64 2, .int .i64 4]) (ps := [(0, .int .i64 0), (1, .int .i64 1), (2, .int .i64 2), (3, .int .i64 4)]) rfl rfl rfl rfl (by kernel_rfl) (by kernel_rfl)) rfl rfl ?_
  rintro _ _ ⟨b6, rfl, rfl⟩
  refine l_l rfl rfl rfl ?_
  refine l_l rfl rfl rfl ?_
  refine l_nil ?_
  refine c_seq ?_
  refine c_region ?_
  refine l_l (light_struct rfl rfl rfl rfl) rfl rfl ?_
  refine l_l (light_struct rfl rfl rfl rfl) rfl rfl ?_
  refine l_l (light_struct rfl rfl rfl rfl) rfl rfl ?_
  refine l_x (x_slc rfl rfl rfl rfl rfl rfl) rfl rfl ?_
  rintro _ _ ⟨b10, rfl, rfl⟩
  refine l_l (light_struct rfl rfl rfl rfl) rfl rfl ?_
  refine l_l rfl rfl rfl ?_
  refine l_l (light_struct rfl rfl rfl rfl) rfl rfl ?_
  refine l_l rfl rfl rfl ?_
  refine l_l (light_struct rfl rfl rfl rfl) rfl rfl ?_
  refine l_l rfl rfl rfl ?_
  refine l_l (light_struct rfl rfl rfl rfl) rfl rfl ?_
  refine l_l rfl rfl rfl ?_
  refine l_l (light_struct rfl rfl rfl rfl) rfl rfl ?_
  refine l_l rfl rfl rfl ?_
  refine l_l (light_struct rfl rfl rfl rfl) rfl rfl ?_
  refine l_l rfl rfl rfl ?_
  refine l_l (light_struct rfl rfl rfl rfl) rfl rfl ?_
  refine l_l rfl rfl rfl ?_
  refine l_l (light_struct rfl rfl rfl rfl) rfl rfl ?_
  refine l_l rfl rfl rfl ?_
  refine l_l (light_struct rfl rfl rfl rfl) rfl rfl ?_
  refine l_l rfl rfl rfl ?_
  refine l_l (light_struct rfl rfl rfl rfl) rfl rfl ?_
  refine l_l rfl rfl rfl ?_
  refine l_l (light_struct rfl rfl rfl rfl) rfl rfl ?_
  refine l_l rfl rfl rfl ?_
  refine l_l (light_struct rfl rfl rfl rfl) rfl rfl ?_
  refine l_l (light_struct rfl rfl rfl rfl) rfl rfl ?_
  refine l_l (light_struct rfl rfl rfl rfl) rfl rfl ?_
  refine l_l (light_struct rfl rfl rfl rfl) rfl rfl ?_
  refine l_l (light_struct rfl rfl rfl rfl) rfl rfl ?_
  refine l_l rfl rfl rfl ?_
  refine l_l (light_struct rfl rfl rfl rfl) rfl rfl ?_
  refine l_l (light_struct rfl rfl rfl rfl) rfl rfl ?_
  refine l_l (light_struct rfl rfl rfl rfl) rfl rfl ?_
  refine l_l (light_struct rfl rfl rfl rfl) rfl rfl ?_
  refine l_l (light_struct rfl rfl rfl rfl) rfl rfl ?_
  refine l_l rfl rfl rfl ?_
  refine l_l (light_struct rfl rfl rfl rfl) rfl rfl ?_
  refine l_l rfl rfl rfl ?_
  refine l_l (light_struct rfl rfl rfl rfl) rfl rfl ?_
  refine l_x (x_slc rfl rfl rfl rfl rfl rfl) rfl rfl ?_
  rintro _ _ ⟨b48, rfl, rfl⟩
  refine l_l (light_struct rfl rfl rfl rfl) rfl rfl ?_
  refine l_l (light_struct rfl rfl rfl rfl) rfl rfl ?_
  refine l_l (light_struct rfl rfl rfl rfl) rfl rfl ?_
  refine l_l (light_struct rfl rfl rfl rfl) rfl rfl ?_
  refine l_l rfl rfl rfl ?_
  refine l_l (light_struct rfl rfl rfl rfl) rfl rfl ?_
  refine l_l (light_struct rfl rfl rfl rfl) rfl rfl ?_
  refine l_l (light_struct rfl rfl rfl rfl) rfl rfl ?_
  refine l_l (light_struct rfl rfl rfl rfl) rfl rfl ?_
  refine l_l (light_struct rfl rfl rfl rfl) rfl rfl ?_
  refine l_x (x_slc rfl rfl rfl rfl rfl rfl) rfl rfl ?_
  rintro _ _ ⟨b59, rfl, rfl⟩
  refine l_l (light_struct rfl rfl rfl rfl) rfl rfl ?_
  refine l_l (light_struct rfl rfl rfl rfl) rfl rfl ?_
  refine l_l (light_struct rfl rfl rfl rfl) rfl rfl ?_
  refine l_l rfl rfl rfl ?_
  refine l_l (light_struct rfl rfl rfl rfl) rfl rfl ?_
  refine l_x (x_slc rfl rfl rfl rfl rfl rfl) rfl rfl ?_
  rintro _ _ ⟨b65, rfl, rfl⟩
  refine l_l (light_struct rfl rfl rfl rfl) rfl rfl ?_
  refine l_l rfl rfl rfl ?_
  refine l_l (light_struct rfl rfl rfl rfl) rfl rfl ?_
  refine l_x (x_slc (z := cPl ⟨0, 0, 0, 0, 0, .slice none 0 0⟩) (l := flat cPl (plL b4 b5 b6 b10 b48 b59 b65)) (ps := [(0, .agg (cPl ((plL b4 b5 b6 b10 b48 b59 b65).getD 0 ⟨0, 0, 0, 0, 0, undef⟩)).toArray), (1, .agg (cPl ((plL b4 b5 b6 b10 b48 b59 b65).getD 1 ⟨0, 0, 0, 0, 0, undef⟩)).toArray), (2, .agg (cPl ((plL b4 b5 b6 b10 b48 b59 b65).getD 2 ⟨0, 0, 0, 0, 0, undef⟩)).toArray), (3, .agg (cPl ((plL b4 b5 b6 b10 b48 b59 b65).getD 3 ⟨0, 0, 0, 0, 0, undef⟩)).toArray), (4, .agg (cPl ((plL b4 b5 b6 b10 b48 b59 b65).getD 4 ⟨0, 0, 0, 0, 0, undef⟩)).toArray), (5, .agg (cPl ((plL b4 b5 b6 b10 b48 b59 b65).getD 5 ⟨0, 0, 0, 0, 0, undef⟩)).toArray), (6, .agg (cPl ((plL b4 b5 b6 b10 b48 b59 b65).getD 6 ⟨0, 0, 0, 0, 0, undef⟩)).toArray), (7, .agg (cPl ((plL b4 b5 b6 b10 b48 b59 b65).getD 7 ⟨0, 0, 0, 0, 0, undef⟩)).toArray), (8, .agg (cPl ((plL b4 b5 b6 b10 b48 b59 b65).getD 8 ⟨0, 0, 0, 0, 0, undef⟩)).toArray), (9, .agg (cPl ((plL b4 b5 b6 b10 b48 b59 b65).getD 9 ⟨0, 0, 0, 0, 0, undef⟩)).toArray), (10, .agg (cPl ((plL b4 b5 b6 b10 b48 b59 b65).getD 10 ⟨0, 0, 0, 0, 0, undef⟩)).toArray), (11, .agg (cPl ((plL b4 b5 b6 b10 b48 b59 b65).getD 11 ⟨0, 0, 0, 0, 0, undef⟩)).toArray), (12, .agg (cPl ((plL b4 b5 b6 b10 b48 b59 b65).getD 12 ⟨0, 0, 0, 0, 0, undef⟩)).toArray), (13, .agg (cPl ((plL b4 b5 b6 b10 b48 b59 b65).getD 13 ⟨0, 0, 0, 0, 0, undef⟩)).toArray), (14, .agg (cPl ((plL b4 b5 b6 b10 b48 b59 b65).getD 14 ⟨0, 0, 0, 0, 0, undef⟩)).toArray), (15, .agg (cPl ((plL b4 b5 b6 b10 b48 b59 b65).getD 15 ⟨0, 0, 0, 0, 0, undef⟩)).toArray), (16, .agg (cPl ((plL b4 b5 b6 b10 b48 b59 b65).getD 16 ⟨0, 0, 0, 0, 0, undef⟩)).toArray), (17, .agg (cPl ((plL b4 b5 b6 b10 b48 b59 b65).getD 17 ⟨0, 0, 0, 0, 0, undef⟩)).toArray), (18, .agg (cPl ((plL b4 b5 b6 b10 b48 b59 b65).getD 18 ⟨0, 0, 0, 0, 0, undef⟩)).toArray), (19, .agg (cPl ((plL b4 b5 b6 b10 b48 b59 b65).getD 19 ⟨0, 0, 0, 0, 0, undef⟩)).toArray), (20, .agg (cPl ((plL b4 b5 b6 b10 b48 b59 b65).getD 20 ⟨0, 0, 0, 0, 0, undef⟩)).toArray), (21, .agg (cPl ((plL b4 b5 b6 b10 b48 b59 b65).getD 21 ⟨0, 0, 0, 0, 0, undef⟩)).toArray), (22, .agg (cPl ((plL b4 b5 b6 b10 b48 b59 b65).getD 22 ⟨0, 0, 0, 0, 0, undef⟩)).toArray), (23, .agg (cPl ((plL b4 b5 b6 b10 b48 b59 b65).getD 23 ⟨0, 0, 0, 0, 0, undef⟩)).toArray), (24, .agg (cPl ((plL b4 b5 b6 b10 b48 b59 b65).getD 24 ⟨0, 0, 0, 0, 0, undef⟩)).toArray), (25, .agg (cPl ((plL b4 b5 b6 b10 b48 b59 b65).getD 25 ⟨0, 0, 0, 0, 0, undef⟩)).toArray), (26, .agg (cPl ((plL b4 b5 b6 b10 b48 b59 b65).getD 26 ⟨0, 0, 0, 0, 0, undef⟩)).toArray), (27, .agg (cPl ((plL b4 b5 b6 b10 b48 b59 b65).getD 27 ⟨0, 0, 0, 0, 0, undef⟩)).toArray), (28, .agg (cPl ((plL b4 b5 b6 b10 b48 b59 b65).getD 28 ⟨0, 0, 0, 0, 0, undef⟩)).toArray), (29, .agg (cPl ((plL b4 b5 b6 b10 b48 b59 b65).getD 29 ⟨0, 0, 0, 0, 0, undef⟩)).toArray), (30, .agg (cPl ((plL b4 b5 b6 b10 b48 b59 b65).getD 30 ⟨0, 0, 0, 0, 0, undef⟩)).toArray), (31, .agg (cPl ((plL b4 b5 b6 b10 b48 b59 b65).getD 31 ⟨0, 0, 0, 0, 0, undef⟩)).toArray), (32, .agg (cPl ((plL b4 b5 b6 b10 b48 b59 b65).getD 32 ⟨0, 0, 0, 0, 0, undef⟩)).toArray), (33, .agg (cPl ((plL b4 b5 b6 b10 b48 b59 b65).getD 33 ⟨0, 0, 0, 0, 0, undef⟩)).toArray), (34, .agg (cPl ((plL b4 b5 b6 b10 b48 b59 b65).getD 34 ⟨0, 0, 0, 0, 0, undef⟩)).toArray), (35, .agg (cPl ((plL b4 b5 b6 b10 b48 b59 b65).getD 35 ⟨0, 0, 0, 0, 0, undef⟩)).toArray), (36, .agg (cPl ((plL b4 b5 b6 b10 b48 b59 b65).getD 36 ⟨0, 0, 0, 0, 0, undef⟩)).toArray), (37, .agg (cPl ((plL b4 b5 b6 b10 b48 b59 b65).getD 37 ⟨0, 0, 0, 0, 0, undef⟩)).toArray), (38, .agg (cPl ((plL b4 b5 b6 b10 b48 b59 b65).getD 38 ⟨0, 0, 0, 0, 0, undef⟩)).toArray), (39, .agg (cPl ((plL b4 b5 b6 b10 b48 b59 b65).getD 39 ⟨0, 0, 0, 0, 0, undef⟩)).toArray), (40, .agg (cPl ((plL b4 b5 b6 b10 b48 b59 b65).getD 40 ⟨0, 0, 0, 0, 0, undef⟩)).toArray)]) rfl (by rfl) rfl rfl (by kernel_rfl) (by kernel_rfl)) rfl rfl ?_
  rintro _ _ ⟨b69, rfl, rfl⟩
  refine l_l rfl rfl rfl ?_
  refine l_nil ?_
  refine c_ret ?_
  exact l_end (fun _ _ => rets_v rfl) (List.Sublist.refl _) ⟨_, _, _, rfl, rfl, plL_len .., plL_ok (rowsIn_mem (by repeat (first | exact .head _ | refine .tail _ ?_ | refine List.mem_append_right _ ?_))) (rowsIn_mem (by repeat (first | exact .head _ | refine .tail _ ?_ | refine List.mem_append_right _ ?_))) (rowsIn_mem (by repeat (first | exact .head _ | refine .tail _ ?_ | refine List.mem_append_right _ ?_))) (rowsIn_mem (by repeat (first | exact .head _ | refine .tail _ ?_ | refine List.mem_append_right _ ?_))) (rowsIn_mem (by repeat (first | exact .head _ | refine .tail _ ?_ | refine List.mem_append_right _ ?_))) (rowsIn_mem (by repeat (first | exact .head _ | refine .tail _ ?_ | refine List.mem_append_right _ ?_))) (rowsIn_mem (by repeat (first | exact .head _ | refine .tail _ ?_ | refine List.mem_append_right _ ?_)))⟩

theorem p1_move {i : Nat} (h : i / 64 = 1) : p1 i = ⟨7, ((i / 8 % 8 : Nat) : Int), ((i % 8 : Nat) : Int), 1, 0⟩ := by unfold p1; rw [if_pos h]
theorem p1_sum {i : Nat} (h : i / 64 = 2) : p1 i = ⟨10, ((i / 8 % 8 : Nat) : Int), ((i % 8 : Nat) : Int), 1, 0⟩ := by unfold p1; rw [if_neg (by omega), if_pos h]
theorem p1_bad {i : Nat} (h : ¬ i / 64 = 1) (h2 : ¬ i / 64 = 2) : p1 i = ⟨4, 0, 0, 1, 0⟩ := by unfold p1; rw [if_neg h, if_neg h2]

set_option maxHeartbeats 1000000 in
theorem fill_fn (b : Nat) (u1 u2 u3 : Value) (P B : List Opr) (hP0 : P.length = 256) (hB0 : B.length = 256) (w : World) (hb : w.heap[b]? = some (blk (tabL u1 u2 u3 P B) 54)) :
    Does Try.prog 17 [.pointer (some ⟨b, 0, none⟩)] w [b] (fun v H => v = .tuple #[] ∧ H = [(b, blk (tabL u1 u2 u3 tabP tabB) 54)]) := by
  refine does_of Try.func17 rfl rfl rfl (St.lent1 hb) ?_
  refine c_seq ?_
  refine c_seq ?_
  refine c_region ?_
  refine l_l rfl rfl rfl ?_
  refine l_nil ?_
  refine c_block ?_
  refine c_loop (σ := Nat × List Opr × List Opr) [2, 3, 4, 10, 11, 12, 13, 14, 15, 16, 17, 18, 19, 20, 21, 22, 23, 24, 25, 26, 27, 28, 29, 30, 31, 32, 33, 34, 35, 36, 37, 38, 39, 40, 41, 42, 43, 44, 45, 46, 47, 48, 49, 50, 51, 52, 53, 54, 55, 56, 57, 58, 59] (fun s => [(10, .int .i64 s.1)]) (fun s => [(b, blk (tabL u1 u2 u3 s.2.1 s.2.2) 54)]) (fun s => s.1 ≤ 256 ∧ Filled p1 s.2.1 s.1 ∧ Filled b1 s.2.2 s.1) (fun s => 256 - s.1) (0, P, B) ?_ ?_ ?_ ?_
  · exact ⟨Nat.zero_le _, .start _ hP0, .start _ hB0⟩
  · exact .cons rfl .nil
  · exact fun _ h => h
  · rintro ⟨i, P, B⟩ y1 ⟨hi, hF, hG⟩
    dsimp only at hi hF hG ⊢
    refine c_seq ?_
    refine c_region ?_
    refine l_l rfl rfl rfl ?_
    refine l_nil ?_
    refine c_seq ?_
    refine c_cond rfl (fun h1 => ?_) (fun h1 => ?_)
    · refine c_skip ?_
      refine c_seq ?_
      refine c_block ?_
      refine c_seq ?_
      refine c_region ?_
      refine l_l rfl rfl rfl ?_
      refine l_l rfl rfl rfl ?_
      refine l_nil ?_
      refine c_seq ?_
      have hi' : i < 256 := by (try simp only [decide_eq_true_eq, decide_eq_false_iff_not, beq_iff_eq, beq_eq_false_iff_ne, bne_iff_ne, bne_eq_false_iff_eq, ne_eq] at *); omega
      have hP := hF.len
      have hB := hG.len
      refine c_region ?_
      refine l_l rfl rfl rfl ?_
      refine l_l rfl rfl rfl ?_
      refine l_l (light_struct rfl rfl rfl rfl) rfl rfl ?_
      refine l_l rfl rfl rfl ?_
      refine l_l (light_fa rfl rfl) rfl rfl ?_
      refine l_l (idx_array (s := 5) i rfl rfl rfl rfl (by (try simp only [decide_eq_true_eq, decide_eq_false_iff_not, beq_iff_eq, beq_eq_false_iff_ne, bne_iff_ne, bne_eq_false_iff_eq, ne_eq] at *); omega)) rfl rfl ?_
      refine l_x (x_store (vs := cO ⟨4, 0, 0, 1, 0⟩) 0 rfl rfl rfl rfl rfl rfl (by rw [tabL_len hP hB, cO_len]; omega)) rfl rfl ?_
      rintro _ _ ⟨rfl, rfl⟩
      simp only [List.set_cons_zero, List.set_cons_succ]
      rw [show 0 + 3 + i * 5 = 3 + i * 5 by omega, tabL_setP hP hi']
      refine l_nil ?_
      refine c_seq ?_
      have hP : (P.set i ⟨4, 0, 0, 1, 0⟩).length = 256 := by rw [List.length_set]; exact hF.len
      refine c_region ?_
      refine l_l rfl rfl rfl ?_
      refine l_as (v := (.int .i64 ((i / 8 : Nat) : Int))) (shr_pos rfl rfl (by decide)) rfl rfl (congrArg _ (shr_nat (k := 3) (by decide))) ?_
      refine l_as (v := (.int .i64 ((i / 8 % 8 : Nat) : Int))) rfl rfl rfl (congrArg _ (and7 (by omega))) ?_
      refine l_l rfl rfl rfl ?_
      refine l_as (v := (.int .i64 ((i % 8 : Nat) : Int))) rfl rfl rfl (congrArg _ (and7 (by omega))) ?_
      refine l_l rfl rfl rfl ?_
      refine l_l rfl rfl rfl ?_
      refine l_nil ?_
      refine c_seq ?_
      refine c_draw _ [] (.step true 0 (.step true 1 (.step true 3 (.step true 4 (.step true 7 (.step true 8 (.step true 10 (.step true 11 (.step false 2 (.step true 5 (.step false 6 (.step true 9 (.step true 12 (.step false 13 .done)))))))))))))) rfl (by kernel_rfl) (by kernel_rfl) (fun _ h => h) ?_
      refine d_light rfl rfl rfl rfl rfl ?_
      refine d_light rfl rfl rfl rfl rfl ?_
      refine d_light rfl rfl rfl rfl rfl ?_
      refine d_as (v := (.int .i64 ((i / 64 : Nat) : Int))) rfl (shr_pos rfl rfl (by decide)) rfl rfl rfl (congrArg _ (shr_nat (k := 6) (by decide))) ?_
      refine d_light rfl rfl rfl rfl rfl ?_
      refine d_light rfl rfl rfl rfl rfl ?_
      refine d_light rfl rfl rfl rfl rfl ?_
      refine d_light rfl (light_fa rfl rfl) rfl rfl rfl ?_
      refine d_x rfl (x_slc (z := [.int .i64 0]) (l := [.int .i64 17, .int .i64 44, .int .i64 45, .int .i64 46]) (ps := [(0, .int .i64 17), (1, .int .i64 44), (2, .int .i64 45), (3, .int .i64 46)]) rfl rfl rfl rfl (by kernel_rfl) (by kernel_rfl)) rfl rfl (by intro h; cases h) ?_
      rintro _ _ ⟨b26, rfl, rfl⟩
      refine d_light rfl (idx_slice (s := 1) (i / 64) rfl rfl rfl rfl (by omega)) rfl rfl rfl ?_
      refine d_x rfl (x_load rfl rfl (at_own (.head _) (kind4' (i / 64) (by omega)))) rfl rfl (by intro h; cases h) ?_
      rintro _ _ ⟨rfl, rfl⟩
      refine d_light rfl (light_struct rfl rfl rfl rfl) rfl rfl rfl ?_
      refine d_light rfl (idx_array (s := 5) i rfl rfl rfl rfl (by (try simp only [decide_eq_true_eq, decide_eq_false_iff_not, beq_iff_eq, beq_eq_false_iff_ne, bne_iff_ne, bne_eq_false_iff_eq, ne_eq] at *); omega)) rfl rfl rfl ?_
      refine d_x rfl (x_store (vs := cO (b1 i)) 1 rfl rfl rfl rfl rfl rfl (by rw [tabL_len hP hB, cO_len]; omega)) rfl rfl (by intro h; cases h) ?_
      rintro _ _ ⟨rfl, rfl⟩
      simp only [List.set_cons_zero, List.set_cons_succ]
      rw [show 0 + 1283 + i * 5 = 1283 + i * 5 by omega, tabL_setB hP hB hi']
      refine d_nil ?_
      refine c_seq ?_
      refine c_region ?_
      refine l_l rfl rfl rfl ?_
      refine l_as (v := (.int .i64 ((i / 64 : Nat) : Int))) (shr_pos rfl rfl (by decide)) rfl rfl (congrArg _ (shr_nat (k := 6) (by decide))) ?_
      refine l_nil ?_
      refine c_block ?_
      refine c_seq ?_
      refine c_region ?_
      refine l_l rfl rfl rfl ?_
      refine l_l rfl rfl rfl ?_
      refine l_nil ?_
      refine c_cond rfl (fun h2 => ?_) (fun h2 => ?_)
      · have hB : (B.set i (b1 i)).length = 256 := by rw [List.length_set]; exact hG.len
        refine c_region ?_
        refine l_l rfl rfl rfl ?_
        refine l_l rfl rfl rfl ?_
        refine l_l rfl rfl rfl ?_
        refine l_l rfl rfl rfl ?_
        refine l_l (light_struct rfl rfl rfl rfl) rfl rfl ?_
        refine l_l rfl rfl rfl ?_
        refine l_l (light_fa rfl rfl) rfl rfl ?_
        refine l_l (idx_array (s := 5) i rfl rfl rfl rfl (by (try simp only [decide_eq_true_eq, decide_eq_false_iff_not, beq_iff_eq, beq_eq_false_iff_ne, bne_iff_ne, bne_eq_false_iff_eq, ne_eq] at *); omega)) rfl rfl ?_
        refine l_x (x_store (vs := cO ⟨7, ((i / 8 % 8 : Nat) : Int), ((i % 8 : Nat) : Int), 1, 0⟩) 1 rfl rfl rfl rfl rfl rfl (by rw [tabL_len hP hB, cO_len]; omega)) rfl rfl ?_
        rintro _ _ ⟨rfl, rfl⟩
        simp only [List.set_cons_zero, List.set_cons_succ]
        rw [show 0 + 3 + i * 5 = 3 + i * 5 by omega, tabL_setP hP hi', List.set_set]
        refine l_nil ?_
        refine c_region ?_
        refine l_as (v := (.int .i64 ((i + 1 : Nat) : Int))) rfl rfl rfl (congrArg _ (succ_law (by omega))) ?_
        refine l_l rfl rfl rfl ?_
        refine l_nil ?_
        rw [← p1_move (i := i) (by (try simp only [decide_eq_true_eq, decide_eq_false_iff_not, beq_iff_eq, beq_eq_false_iff_ne, bne_iff_ne, bne_eq_false_iff_eq, ne_eq] at *); omega)]
        exact ⟨(i + 1, _, _), ⟨by (try simp only [decide_eq_true_eq, decide_eq_false_iff_not, beq_iff_eq, beq_eq_false_iff_ne, bne_iff_ne, bne_eq_false_iff_eq, ne_eq] at *); omega, hF.step hi', hG.step hi'⟩, by (try simp only [decide_eq_true_eq, decide_eq_false_iff_not, beq_iff_eq, beq_eq_false_iff_ne, bne_iff_ne, bne_eq_false_iff_eq, ne_eq] at *); omega, .cons rfl .nil, (by repeat (first | exact Agree.refl _ _ | exact Agree.mix rfl | refine Agree.put rfl ?_ | refine Agree.keep rfl ?_)), fun _ h => h.sub (List.sublist_cons_self _ _)⟩
      · refine c_seq ?_
        refine c_region ?_
        refine l_l rfl rfl rfl ?_
        refine l_l rfl rfl rfl ?_
        refine l_nil ?_
        refine c_cond rfl (fun h3 => ?_) (fun h3 => ?_)
        · have hB : (B.set i (b1 i)).length = 256 := by rw [List.length_set]; exact hG.len
          refine c_region ?_
          refine l_l rfl rfl rfl ?_
          refine l_l rfl rfl rfl ?_
          refine l_l rfl rfl rfl ?_
          refine l_l rfl rfl rfl ?_
          refine l_l (light_struct rfl rfl rfl rfl) rfl rfl ?_
          refine l_l rfl rfl rfl ?_
          refine l_l (light_fa rfl rfl) rfl rfl ?_
          refine l_l (idx_array (s := 5) i rfl rfl rfl rfl (by (try simp only [decide_eq_true_eq, decide_eq_false_iff_not, beq_iff_eq, beq_eq_false_iff_ne, bne_iff_ne, bne_eq_false_iff_eq, ne_eq] at *); omega)) rfl rfl ?_
          refine l_x (x_store (vs := cO ⟨10, ((i / 8 % 8 : Nat) : Int), ((i % 8 : Nat) : Int), 1, 0⟩) 1 rfl rfl rfl rfl rfl rfl (by rw [tabL_len hP hB, cO_len]; omega)) rfl rfl ?_
          rintro _ _ ⟨rfl, rfl⟩
          simp only [List.set_cons_zero, List.set_cons_succ]
          rw [show 0 + 3 + i * 5 = 3 + i * 5 by omega, tabL_setP hP hi', List.set_set]
          refine l_nil ?_
          refine c_region ?_
          refine l_as (v := (.int .i64 ((i + 1 : Nat) : Int))) rfl rfl rfl (congrArg _ (succ_law (by omega))) ?_
          refine l_l rfl rfl rfl ?_
          refine l_nil ?_
          rw [← p1_sum (i := i) (by (try simp only [decide_eq_true_eq, decide_eq_false_iff_not, beq_iff_eq, beq_eq_false_iff_ne, bne_iff_ne, bne_eq_false_iff_eq, ne_eq] at *); omega)]
          exact ⟨(i + 1, _, _), ⟨by (try simp only [decide_eq_true_eq, decide_eq_false_iff_not, beq_iff_eq, beq_eq_false_iff_ne, bne_iff_ne, bne_eq_false_iff_eq, ne_eq] at *); omega, hF.step hi', hG.step hi'⟩, by (try simp only [decide_eq_true_eq, decide_eq_false_iff_not, beq_iff_eq, beq_eq_false_iff_ne, bne_iff_ne, bne_eq_false_iff_eq, ne_eq] at *); omega, .cons rfl .nil, (by repeat (first | exact Agree.refl _ _ | exact Agree.mix rfl | refine Agree.put rfl ?_ | refine Agree.keep rfl ?_)), fun _ h => h.sub (List.sublist_cons_self _ _)⟩
        · refine c_skip ?_
          refine c_region ?_
          refine l_as (v := (.int .i64 ((i + 1 : Nat) : Int))) rfl rfl rfl (congrArg _ (succ_law (by omega))) ?_
          refine l_l rfl rfl rfl ?_
          refine l_nil ?_
          rw [← p1_bad (i := i) (by (try simp only [decide_eq_true_eq, decide_eq_false_iff_not, beq_iff_eq, beq_eq_false_iff_ne, bne_iff_ne, bne_eq_false_iff_eq, ne_eq] at *); omega) (by (try simp only [decide_eq_true_eq, decide_eq_false_iff_not, beq_iff_eq, beq_eq_false_iff_ne, bne_iff_ne, bne_eq_false_iff_eq, ne_eq] at *); omega)]
          exact ⟨(i + 1, _, _), ⟨by (try simp only [decide_eq_true_eq, decide_eq_false_iff_not, beq_iff_eq, beq_eq_false_iff_ne, bne_iff_ne, bne_eq_false_iff_eq, ne_eq] at *); omega, hF.step hi', hG.step hi'⟩, by (try simp only [decide_eq_true_eq, decide_eq_false_iff_not, beq_iff_eq, beq_eq_false_iff_ne, bne_iff_ne, bne_eq_false_iff_eq, ne_eq] at *); omega, .cons rfl .nil, (by repeat (first | exact Agree.refl _ _ | exact Agree.mix rfl | refine Agree.put rfl ?_ | refine Agree.keep rfl ?_)), fun _ h => h.sub (List.sublist_cons_self _ _)⟩
    · refine c_exit rfl ?_
      refine c_seq ?_
      obtain rfl : 256 = i := by (try simp only [decide_eq_true_eq, decide_eq_false_iff_not, beq_iff_eq, beq_eq_false_iff_ne, bne_iff_ne, bne_eq_false_iff_eq, ne_eq] at *); omega
      obtain rfl := hF.all
      obtain rfl := hG.all
      have hP := hF.len
      have hB := hG.len
      refine c_region ?_
      refine l_l rfl rfl rfl ?_
      refine l_l (light_struct rfl rfl rfl rfl) rfl rfl ?_
      refine l_l rfl rfl rfl ?_
      refine l_l (light_fa rfl rfl) rfl rfl ?_
      refine l_l (idx_array (s := 5) 118 rfl rfl rfl rfl (by decide)) rfl rfl ?_
      refine l_x (x_store (vs := cO ⟨3, 0, 0, 1, 0⟩) 0 rfl rfl rfl rfl rfl rfl (by rw [tabL_len hP hB, cO_len]; omega)) rfl rfl ?_
      rintro _ _ ⟨rfl, rfl⟩
      simp only [List.set_cons_zero]
      rw [show 0 + 3 + 118 * 5 = 3 + 118 * 5 from rfl, tabL_setP hP (by decide)]
      refine l_nil ?_
      refine c_seq ?_
      refine c_seq ?_
      refine c_region ?_
      refine l_x (x_call call_38 rfl (fun w hw => plans_fn w)) rfl rfl ?_
      rintro _ _ ⟨_, ⟨b65, L, GL, rfl, rfl, hLl, hok⟩, rfl⟩
      refine l_heap (H' := (b, blk (tabL u1 u2 u3 startP tabB) 54) :: ((b65, blk (flat cPl L) 69) :: GL)) (fun _ h => St.fl [((b65, blk (flat cPl L) 69) :: GL), [_]] [1, 0] rfl h) ?_
      refine l_l (by first | exact light_len rfl rfl | exact light_lens rfl rfl | rfl) rfl rfl ?_
      refine l_l rfl rfl rfl ?_
      refine l_nil ?_
      refine c_block ?_
      refine c_loop (σ := Nat) [6, 7, 8, 67, 68, 69, 70, 71, 72, 73, 74, 75, 76, 77, 78, 79, 80, 81, 82, 83, 84, 85, 86, 87, 88, 89, 90, 91, 92, 93, 94, 95, 96, 97, 98, 99, 100, 101, 102, 103] (fun k => [(67, .int .i64 k)]) (fun k => (b, blk (tabL u1 u2 u3 ((PL.take k).foldl putQ startP) tabB) 54) :: ((b65, blk (flat cPl L) 69) :: GL)) (fun k => k ≤ 41) (fun k => 41 - k) 0 ?_ ?_ ?_ ?_
      · exact Nat.zero_le _
      · exact .cons rfl .nil
      · exact fun _ h => h
      · intro k y14 hk
        refine c_seq ?_
        refine c_region ?_
        refine l_l rfl rfl rfl ?_
        refine l_nil ?_
        refine c_seq ?_
        refine c_cond rfl (fun h4 => ?_) (fun h4 => ?_)
        · refine c_skip ?_
          refine c_seq ?_
          refine c_block ?_
          refine c_seq ?_
          obtain ⟨q, hq⟩ : ∃ q, PL[k]? = some q := ⟨_, get_some (by rw [PL_len]; (try simp only [decide_eq_true_eq, decide_eq_false_iff_not, beq_iff_eq, beq_eq_false_iff_ne, bne_iff_ne, bne_eq_false_iff_eq, ne_eq] at *); omega)⟩
          obtain ⟨⟨pa, pb, pm, pk, ps, px⟩, hp, e1, e2, e3, e4, e5, e6⟩ := hok.get hq
          dsimp only at e1 e2 e3 e4 e5 e6
          subst e1 e2 e3 e4 e5
          obtain ⟨hq1, hq2, hq3, hq4⟩ := okQ_spec (okQ_at hq)
          have hP2 : ((PL.take k).foldl putQ startP).length = 256 := by rw [foldQ_len, startP_len]
          have e7 : (q.x = none ∧ px = .slice none 0 0) ∨ ∃ xs bx, q.x = some xs ∧ px = .slice (some ⟨bx, 0, none⟩) xs.length xs.length ∧ VV.RowsIn GL bx 0 (xs.map (.int .i64)) := by
            cases hx : q.x with
            | none => rw [hx] at e6; exact .inl ⟨rfl, e6⟩
            | some xs => rw [hx] at e6; obtain ⟨bx, h1, h2⟩ := e6; exact .inr ⟨xs, bx, rfl, h1, h2⟩
          rcases e7 with ⟨hx, rfl⟩ | ⟨xs, bx, hx, rfl, hrx⟩
          · refine c_region ?_
            refine l_l (idx_slice (s := 6) k rfl rfl rfl rfl (by (try simp only [decide_eq_true_eq, decide_eq_false_iff_not, beq_iff_eq, beq_eq_false_iff_ne, bne_iff_ne, bne_eq_false_iff_eq, ne_eq] at *); omega)) rfl rfl ?_
            refine l_x (x_loadA rfl rfl rfl (fun w hw => (row_own (.tail _ (.head _)) w hw).nth' cPl_len hp)) rfl rfl ?_
            rintro _ _ ⟨rfl, rfl⟩
            refine l_x (x_alloc rfl) rfl rfl ?_
            rintro _ _ ⟨b6, rfl, rfl⟩
            refine l_x (by first | exact x_store 0 rfl rfl rfl rfl rfl rfl (by first | rfl | exact Nat.le_of_ble_eq_true rfl | (simp; done)) | exact x_store 1 rfl rfl rfl rfl rfl rfl (by first | rfl | exact Nat.le_of_ble_eq_true rfl | (simp; done)) | exact x_store 2 rfl rfl rfl rfl rfl rfl (by first | rfl | exact Nat.le_of_ble_eq_true rfl | (simp; done)) | exact x_store 3 rfl rfl rfl rfl rfl rfl (by first | rfl | exact Nat.le_of_ble_eq_true rfl | (simp; done))) rfl rfl ?_
            rintro _ _ ⟨rfl, rfl⟩
            refine l_nil ?_
            refine c_seq ?_
            refine c_region ?_
            refine l_l (light_fa rfl rfl) rfl rfl ?_
            refine l_x (x_load rfl rfl (at_own (by repeat (first | exact .head _ | refine .tail _ ?_ | refine List.mem_append_right _ ?_)) (by rfl))) rfl rfl ?_
            rintro _ _ ⟨rfl, rfl⟩
            refine l_l rfl rfl rfl ?_
            refine l_nil ?_
            refine c_block ?_
            refine c_loop (σ := Nat) [7, 8, 73, 74, 75, 76, 77, 78, 79, 80, 81, 82, 83, 84, 85, 86, 87, 88, 89, 90, 91, 92, 93, 94, 95, 96, 97, 98, 99, 100, 101, 102] (fun i => [(73, .int .i64 i)]) (fun i => (b, blk (tabL u1 u2 u3 (putN q ((PL.take k).foldl putQ startP) i) tabB) 54) :: (b6, blk (cPl ⟨q.at_, q.by_, q.many, q.kind, q.size, .slice none 0 0⟩) 69) :: ((b65, blk (flat cPl L) 69) :: GL)) (fun i => i ≤ q.many) (fun i => q.many - i) 0 ?_ ?_ ?_ ?_
            · exact Nat.zero_le _
            · exact .cons rfl .nil
            · exact fun _ h => by simp only [putN_zero]; exact St.fl [[_], [_], ((b65, blk (flat cPl L) 69) :: GL)] [1, 0, 2] rfl h
            · intro i y17 hi
              refine c_seq ?_
              refine c_region ?_
              refine l_l rfl rfl rfl ?_
              refine l_nil ?_
              refine c_seq ?_
              refine c_cond rfl (fun h5 => ?_) (fun h5 => ?_)
              · refine c_skip ?_
                refine c_seq ?_
                refine c_block ?_
                refine c_seq ?_
                refine c_region ?_
                refine l_l rfl rfl rfl ?_
                refine l_l rfl rfl rfl ?_
                refine l_nil ?_
                refine c_seq ?_
                refine c_region ?_
                refine l_l (light_fa rfl rfl) rfl rfl ?_
                refine l_x (x_load rfl rfl (at_own (by repeat (first | exact .head _ | refine .tail _ ?_ | refine List.mem_append_right _ ?_)) (by rfl))) rfl rfl ?_
                rintro _ _ ⟨rfl, rfl⟩
                refine l_l (light_fa rfl rfl) rfl rfl ?_
                refine l_x (x_load rfl rfl (at_own (by repeat (first | exact .head _ | refine .tail _ ?_ | refine List.mem_append_right _ ?_)) (by rfl))) rfl rfl ?_
                rintro _ _ ⟨rfl, rfl⟩
                refine l_l (light_struct rfl rfl rfl rfl) rfl rfl ?_
                refine l_x (x_alloc rfl) rfl rfl ?_
                rintro _ _ ⟨b8, rfl, rfl⟩
                refine l_x (by first | exact x_store 0 rfl rfl rfl rfl rfl rfl (by first | rfl | exact Nat.le_of_ble_eq_true rfl | (simp; done)) | exact x_store 1 rfl rfl rfl rfl rfl rfl (by first | rfl | exact Nat.le_of_ble_eq_true rfl | (simp; done)) | exact x_store 2 rfl rfl rfl rfl rfl rfl (by first | rfl | exact Nat.le_of_ble_eq_true rfl | (simp; done)) | exact x_store 3 rfl rfl rfl rfl rfl rfl (by first | rfl | exact Nat.le_of_ble_eq_true rfl | (simp; done))) rfl rfl ?_
                rintro _ _ ⟨rfl, rfl⟩
                refine l_nil ?_
                refine c_seq ?_
                refine c_seq ?_
                refine c_region ?_
                refine l_l (light_fa rfl rfl) rfl rfl ?_
                refine l_x (x_load rfl rfl (at_own (by repeat (first | exact .head _ | refine .tail _ ?_ | refine List.mem_append_right _ ?_)) (by rfl))) rfl rfl ?_
                rintro _ _ ⟨rfl, rfl⟩
                refine l_sure false rfl rfl rfl rfl ?_
                refine l_nil ?_
                refine c_false rfl ?_
                refine c_skip ?_
                have hP : (putN q ((PL.take k).foldl putQ startP) i).length = 256 := by rw [putN_len]; exact hP2
                refine c_draw _ [3, 4, 5, 6, 8, 9, 10] (.step true 0 (.step true 1 (.step true 2 (.step true 3 (.step true 4 (.step true 5 (.step true 6 (.step true 7 (.step true 8 (.step true 9 (.step true 10 (.step true 11 (.step false 12 .done))))))))))))) rfl (by kernel_rfl) (by kernel_rfl) (fun _ h => h) ?_
                refine d_light rfl rfl rfl rfl rfl ?_
                refine d_light rfl (light_fa rfl rfl) rfl rfl rfl ?_
                refine d_load rfl rfl rfl (s_own (by repeat (first | exact .head _ | refine .tail _ ?_ | refine List.mem_append_right _ ?_)) (by rfl)) rfl rfl ?_
                refine d_light rfl (light_fa rfl rfl) rfl rfl rfl ?_
                refine d_load rfl rfl rfl (s_own (by repeat (first | exact .head _ | refine .tail _ ?_ | refine List.mem_append_right _ ?_)) (by rfl)) rfl rfl ?_
                refine d_light rfl rfl rfl rfl rfl ?_
                refine d_as (v := (.int .i64 ((q.by_ * i : Nat) : Int))) rfl rfl rfl rfl rfl (congrArg _ (by dsimp only; have := hq1 i (by (try simp only [decide_eq_true_eq, decide_eq_false_iff_not, beq_iff_eq, beq_eq_false_iff_ne, bne_iff_ne, bne_eq_false_iff_eq, ne_eq] at *); omega); rw [wrap_i64 (by rw [← Int.natCast_mul]; omega) (by rw [← Int.natCast_mul]; omega)]; simp)) ?_
                refine d_as (v := (.int .i64 ((q.at_ + q.by_ * i : Nat) : Int))) rfl rfl rfl rfl rfl (congrArg _ (by dsimp only; have := hq1 i (by (try simp only [decide_eq_true_eq, decide_eq_false_iff_not, beq_iff_eq, beq_eq_false_iff_ne, bne_iff_ne, bne_eq_false_iff_eq, ne_eq] at *); omega); rw [wrap_i64 (by omega) (by omega)]; omega)) ?_
                refine d_loadA rfl rfl rfl rfl (by first | exact srow_own (by repeat (first | exact .head _ | refine .tail _ ?_ | refine List.mem_append_right _ ?_)) | exact srow_own_at (by repeat (first | exact .head _ | refine .tail _ ?_ | refine List.mem_append_right _ ?_)) _ 5 rfl) rfl rfl ?_
                refine d_light rfl rfl rfl rfl rfl ?_
                refine d_light rfl (light_fa rfl rfl) rfl rfl rfl ?_
                refine d_light rfl (idx_array (s := 5) (q.at_ + q.by_ * i) rfl rfl rfl rfl (hq1 i (by (try simp only [decide_eq_true_eq, decide_eq_false_iff_not, beq_iff_eq, beq_eq_false_iff_ne, bne_iff_ne, bne_eq_false_iff_eq, ne_eq] at *); omega))) rfl rfl rfl ?_
                refine d_x rfl (x_store (vs := cO (qOp q i)) 1 rfl rfl (by rw [qOp_none hx]; rfl) rfl rfl rfl (by rw [tabL_len hP (by simp [tabB]), cO_len]; have := hq1 i (by (try simp only [decide_eq_true_eq, decide_eq_false_iff_not, beq_iff_eq, beq_eq_false_iff_ne, bne_iff_ne, bne_eq_false_iff_eq, ne_eq] at *); omega); omega)) rfl rfl (by intro h; cases h) ?_
                rintro _ _ ⟨rfl, rfl⟩
                simp only [List.set_cons_zero, List.set_cons_succ]
                rw [show 0 + 3 + (q.at_ + q.by_ * i) * 5 = 3 + (q.at_ + q.by_ * i) * 5 by omega, tabL_setP hP (hq1 i (by (try simp only [decide_eq_true_eq, decide_eq_false_iff_not, beq_iff_eq, beq_eq_false_iff_ne, bne_iff_ne, bne_eq_false_iff_eq, ne_eq] at *); omega)), ← putN_succ]
                refine d_nil ?_
                refine c_region ?_
                refine l_as (v := (.int .i64 ((i + 1 : Nat) : Int))) rfl rfl rfl (congrArg _ (succ_law (by omega))) ?_
                refine l_l rfl rfl rfl ?_
                refine l_nil ?_
                exact ⟨i + 1, by (try simp only [decide_eq_true_eq, decide_eq_false_iff_not, beq_iff_eq, beq_eq_false_iff_ne, bne_iff_ne, bne_eq_false_iff_eq, ne_eq] at *); omega, by (try simp only [decide_eq_true_eq, decide_eq_false_iff_not, beq_iff_eq, beq_eq_false_iff_ne, bne_iff_ne, bne_eq_false_iff_eq, ne_eq] at *); omega, .cons rfl .nil, (by repeat (first | exact Agree.refl _ _ | exact Agree.mix rfl | refine Agree.put rfl ?_ | refine Agree.keep rfl ?_)), fun _ h => h.sub (List.sublist_cons_self _ _)⟩
              · refine c_exit rfl ?_
                refine c_region ?_
                refine l_as (v := (.int .i64 ((k + 1 : Nat) : Int))) rfl rfl rfl (congrArg _ (succ_law (by omega))) ?_
                refine l_l rfl rfl rfl ?_
                refine l_nil ?_
                obtain rfl : q.many = i := by (try simp only [decide_eq_true_eq, decide_eq_false_iff_not, beq_iff_eq, beq_eq_false_iff_ne, bne_iff_ne, bne_eq_false_iff_eq, ne_eq] at *); omega
                exact ⟨k + 1, by (try simp only [decide_eq_true_eq, decide_eq_false_iff_not, beq_iff_eq, beq_eq_false_iff_ne, bne_iff_ne, bne_eq_false_iff_eq, ne_eq] at *); omega, by (try simp only [decide_eq_true_eq, decide_eq_false_iff_not, beq_iff_eq, beq_eq_false_iff_ne, bne_iff_ne, bne_eq_false_iff_eq, ne_eq] at *); omega, .cons rfl .nil, (by repeat (first | exact Agree.refl _ _ | exact Agree.mix rfl | refine Agree.put rfl ?_ | refine Agree.keep rfl ?_)), fun _ h => by rw [foldQ_take hq, putQ]; exact h.sub (.cons_cons _ (.cons _ (List.Sublist.refl _)))⟩
          · refine c_region ?_
            refine l_l (idx_slice (s := 6) k rfl rfl rfl rfl (by (try simp only [decide_eq_true_eq, decide_eq_false_iff_not, beq_iff_eq, beq_eq_false_iff_ne, bne_iff_ne, bne_eq_false_iff_eq, ne_eq] at *); omega)) rfl rfl ?_
            refine l_x (x_loadA rfl rfl rfl (fun w hw => (row_own (.tail _ (.head _)) w hw).nth' cPl_len hp)) rfl rfl ?_
            rintro _ _ ⟨rfl, rfl⟩
            refine l_x (x_alloc rfl) rfl rfl ?_
            rintro _ _ ⟨b6, rfl, rfl⟩
            refine l_x (by first | exact x_store 0 rfl rfl rfl rfl rfl rfl (by first | rfl | exact Nat.le_of_ble_eq_true rfl | (simp; done)) | exact x_store 1 rfl rfl rfl rfl rfl rfl (by first | rfl | exact Nat.le_of_ble_eq_true rfl | (simp; done)) | exact x_store 2 rfl rfl rfl rfl rfl rfl (by first | rfl | exact Nat.le_of_ble_eq_true rfl | (simp; done)) | exact x_store 3 rfl rfl rfl rfl rfl rfl (by first | rfl | exact Nat.le_of_ble_eq_true rfl | (simp; done))) rfl rfl ?_
            rintro _ _ ⟨rfl, rfl⟩
            refine l_nil ?_
            refine c_seq ?_
            refine c_region ?_
            refine l_l (light_fa rfl rfl) rfl rfl ?_
            refine l_x (x_load rfl rfl (at_own (by repeat (first | exact .head _ | refine .tail _ ?_ | refine List.mem_append_right _ ?_)) (by rfl))) rfl rfl ?_
            rintro _ _ ⟨rfl, rfl⟩
            refine l_l rfl rfl rfl ?_
            refine l_nil ?_
            refine c_block ?_
            refine c_loop (σ := Nat) [7, 8, 73, 74, 75, 76, 77, 78, 79, 80, 81, 82, 83, 84, 85, 86, 87, 88, 89, 90, 91, 92, 93, 94, 95, 96, 97, 98, 99, 100, 101, 102] (fun i => [(73, .int .i64 i)]) (fun i => (b, blk (tabL u1 u2 u3 (putN q ((PL.take k).foldl putQ startP) i) tabB) 54) :: (b6, blk (cPl ⟨q.at_, q.by_, q.many, q.kind, q.size, .slice (some ⟨bx, 0, none⟩) xs.length xs.length⟩) 69) :: ((b65, blk (flat cPl L) 69) :: GL)) (fun i => i ≤ q.many) (fun i => q.many - i) 0 ?_ ?_ ?_ ?_
            · exact Nat.zero_le _
            · exact .cons rfl .nil
            · exact fun _ h => by simp only [putN_zero]; exact St.fl [[_], [_], ((b65, blk (flat cPl L) 69) :: GL)] [1, 0, 2] rfl h
            · intro i y17 hi
              refine c_seq ?_
              refine c_region ?_
              refine l_l rfl rfl rfl ?_
              refine l_nil ?_
              refine c_seq ?_
              refine c_cond rfl (fun h6 => ?_) (fun h6 => ?_)
              · refine c_skip ?_
                refine c_seq ?_
                refine c_block ?_
                refine c_seq ?_
                refine c_region ?_
                refine l_l rfl rfl rfl ?_
                refine l_l rfl rfl rfl ?_
                refine l_nil ?_
                refine c_seq ?_
                refine c_region ?_
                refine l_l (light_fa rfl rfl) rfl rfl ?_
                refine l_x (x_load rfl rfl (at_own (by repeat (first | exact .head _ | refine .tail _ ?_ | refine List.mem_append_right _ ?_)) (by rfl))) rfl rfl ?_
                rintro _ _ ⟨rfl, rfl⟩
                refine l_l (light_fa rfl rfl) rfl rfl ?_
                refine l_x (x_load rfl rfl (at_own (by repeat (first | exact .head _ | refine .tail _ ?_ | refine List.mem_append_right _ ?_)) (by rfl))) rfl rfl ?_
                rintro _ _ ⟨rfl, rfl⟩
                refine l_l (light_struct rfl rfl rfl rfl) rfl rfl ?_
                refine l_x (x_alloc rfl) rfl rfl ?_
                rintro _ _ ⟨b8, rfl, rfl⟩
                refine l_x (by first | exact x_store 0 rfl rfl rfl rfl rfl rfl (by first | rfl | exact Nat.le_of_ble_eq_true rfl | (simp; done)) | exact x_store 1 rfl rfl rfl rfl rfl rfl (by first | rfl | exact Nat.le_of_ble_eq_true rfl | (simp; done)) | exact x_store 2 rfl rfl rfl rfl rfl rfl (by first | rfl | exact Nat.le_of_ble_eq_true rfl | (simp; done)) | exact x_store 3 rfl rfl rfl rfl rfl rfl (by first | rfl | exact Nat.le_of_ble_eq_true rfl | (simp; done))) rfl rfl ?_
                rintro _ _ ⟨rfl, rfl⟩
                refine l_nil ?_
                refine c_seq ?_
                refine c_seq ?_
                refine c_region ?_
                refine l_l (light_fa rfl rfl) rfl rfl ?_
                refine l_x (x_load rfl rfl (at_own (by repeat (first | exact .head _ | refine .tail _ ?_ | refine List.mem_append_right _ ?_)) (by rfl))) rfl rfl ?_
                rintro _ _ ⟨rfl, rfl⟩
                refine l_sure true rfl rfl rfl rfl ?_
                refine l_nil ?_
                refine c_true rfl ?_
                refine c_region ?_
                refine l_l (light_fa rfl rfl) rfl rfl ?_
                refine l_x (x_load rfl rfl (at_own (by repeat (first | exact .head _ | refine .tail _ ?_ | refine List.mem_append_right _ ?_)) (by rfl))) rfl rfl ?_
                rintro _ _ ⟨rfl, rfl⟩
                refine l_l rfl rfl rfl ?_
                refine l_l (idx_slice (s := 1) i rfl rfl rfl rfl (by rw [hq4 _ hx]; (try simp only [decide_eq_true_eq, decide_eq_false_iff_not, beq_iff_eq, beq_eq_false_iff_ne, bne_iff_ne, bne_eq_false_iff_eq, ne_eq] at *); omega)) rfl rfl ?_
                refine l_x (x_load rfl rfl (fun w hw => by rw [Nat.mul_one]; exact (hrx.row (fun x hx => by repeat (first | exact hx | refine .tail _ ?_ | refine List.mem_append_right _ ?_)) w hw) i _ (map_get (by rw [hq4 _ hx]; (try simp only [decide_eq_true_eq, decide_eq_false_iff_not, beq_iff_eq, beq_eq_false_iff_ne, bne_iff_ne, bne_eq_false_iff_eq, ne_eq] at *); omega)))) rfl rfl ?_
                rintro _ _ ⟨rfl, rfl⟩
                refine l_l (light_fa rfl rfl) rfl rfl ?_
                refine l_x (by first | exact x_store 0 rfl rfl rfl rfl rfl rfl (by first | rfl | exact Nat.le_of_ble_eq_true rfl | (simp; done)) | exact x_store 1 rfl rfl rfl rfl rfl rfl (by first | rfl | exact Nat.le_of_ble_eq_true rfl | (simp; done)) | exact x_store 2 rfl rfl rfl rfl rfl rfl (by first | rfl | exact Nat.le_of_ble_eq_true rfl | (simp; done)) | exact x_store 3 rfl rfl rfl rfl rfl rfl (by first | rfl | exact Nat.le_of_ble_eq_true rfl | (simp; done))) rfl rfl ?_
                rintro _ _ ⟨rfl, rfl⟩
                refine l_nil ?_
                have hP : (putN q ((PL.take k).foldl putQ startP) i).length = 256 := by rw [putN_len]; exact hP2
                refine c_draw _ [3, 4, 5, 6, 8, 9, 10] (.step true 0 (.step true 1 (.step true 2 (.step true 3 (.step true 4 (.step true 5 (.step true 6 (.step true 7 (.step true 8 (.step true 9 (.step true 10 (.step true 11 (.step false 12 .done))))))))))))) rfl (by kernel_rfl) (by kernel_rfl) (fun _ h => h) ?_
                refine d_light rfl rfl rfl rfl rfl ?_
                refine d_light rfl (light_fa rfl rfl) rfl rfl rfl ?_
                refine d_load rfl rfl rfl (s_own (by repeat (first | exact .head _ | refine .tail _ ?_ | refine List.mem_append_right _ ?_)) (by rfl)) rfl rfl ?_
                refine d_light rfl (light_fa rfl rfl) rfl rfl rfl ?_
                refine d_load rfl rfl rfl (s_own (by repeat (first | exact .head _ | refine .tail _ ?_ | refine List.mem_append_right _ ?_)) (by rfl)) rfl rfl ?_
                refine d_light rfl rfl rfl rfl rfl ?_
                refine d_as (v := (.int .i64 ((q.by_ * i : Nat) : Int))) rfl rfl rfl rfl rfl (congrArg _ (by dsimp only; have := hq1 i (by (try simp only [decide_eq_true_eq, decide_eq_false_iff_not, beq_iff_eq, beq_eq_false_iff_ne, bne_iff_ne, bne_eq_false_iff_eq, ne_eq] at *); omega); rw [wrap_i64 (by rw [← Int.natCast_mul]; omega) (by rw [← Int.natCast_mul]; omega)]; simp)) ?_
                refine d_as (v := (.int .i64 ((q.at_ + q.by_ * i : Nat) : Int))) rfl rfl rfl rfl rfl (congrArg _ (by dsimp only; have := hq1 i (by (try simp only [decide_eq_true_eq, decide_eq_false_iff_not, beq_iff_eq, beq_eq_false_iff_ne, bne_iff_ne, bne_eq_false_iff_eq, ne_eq] at *); omega); rw [wrap_i64 (by omega) (by omega)]; omega)) ?_
                refine d_loadA rfl rfl rfl rfl (by first | exact srow_own (by repeat (first | exact .head _ | refine .tail _ ?_ | refine List.mem_append_right _ ?_)) | exact srow_own_at (by repeat (first | exact .head _ | refine .tail _ ?_ | refine List.mem_append_right _ ?_)) _ 5 rfl) rfl rfl ?_
                refine d_light rfl rfl rfl rfl rfl ?_
                refine d_light rfl (light_fa rfl rfl) rfl rfl rfl ?_
                refine d_light rfl (idx_array (s := 5) (q.at_ + q.by_ * i) rfl rfl rfl rfl (hq1 i (by (try simp only [decide_eq_true_eq, decide_eq_false_iff_not, beq_iff_eq, beq_eq_false_iff_ne, bne_iff_ne, bne_eq_false_iff_eq, ne_eq] at *); omega))) rfl rfl rfl ?_
                refine d_x rfl (x_store (vs := cO (qOp q i)) 1 rfl rfl (by rw [qOp_some hx]; rfl) rfl rfl rfl (by rw [tabL_len hP (by simp [tabB]), cO_len]; have := hq1 i (by (try simp only [decide_eq_true_eq, decide_eq_false_iff_not, beq_iff_eq, beq_eq_false_iff_ne, bne_iff_ne, bne_eq_false_iff_eq, ne_eq] at *); omega); omega)) rfl rfl (by intro h; cases h) ?_
                rintro _ _ ⟨rfl, rfl⟩
                simp only [List.set_cons_zero, List.set_cons_succ]
                rw [show 0 + 3 + (q.at_ + q.by_ * i) * 5 = 3 + (q.at_ + q.by_ * i) * 5 by omega, tabL_setP hP (hq1 i (by (try simp only [decide_eq_true_eq, decide_eq_false_iff_not, beq_iff_eq, beq_eq_false_iff_ne, bne_iff_ne, bne_eq_false_iff_eq, ne_eq] at *); omega)), ← putN_succ]
                refine d_nil ?_
                refine c_region ?_
                refine l_as (v := (.int .i64 ((i + 1 : Nat) : Int))) rfl rfl rfl (congrArg _ (succ_law (by omega))) ?_
                refine l_l rfl rfl rfl ?_
                refine l_nil ?_
                exact ⟨i + 1, by (try simp only [decide_eq_true_eq, decide_eq_false_iff_not, beq_iff_eq, beq_eq_false_iff_ne, bne_iff_ne, bne_eq_false_iff_eq, ne_eq] at *); omega, by (try simp only [decide_eq_true_eq, decide_eq_false_iff_not, beq_iff_eq, beq_eq_false_iff_ne, bne_iff_ne, bne_eq_false_iff_eq, ne_eq] at *); omega, .cons rfl .nil, (by repeat (first | exact Agree.refl _ _ | exact Agree.mix rfl | refine Agree.put rfl ?_ | refine Agree.keep rfl ?_)), fun _ h => h.sub (List.sublist_cons_self _ _)⟩
              · refine c_exit rfl ?_
                refine c_region ?_
                refine l_as (v := (.int .i64 ((k + 1 : Nat) : Int))) rfl rfl rfl (congrArg _ (succ_law (by omega))) ?_
                refine l_l rfl rfl rfl ?_
                refine l_nil ?_
                obtain rfl : q.many = i := by (try simp only [decide_eq_true_eq, decide_eq_false_iff_not, beq_iff_eq, beq_eq_false_iff_ne, bne_iff_ne, bne_eq_false_iff_eq, ne_eq] at *); omega
                exact ⟨k + 1, by (try simp only [decide_eq_true_eq, decide_eq_false_iff_not, beq_iff_eq, beq_eq_false_iff_ne, bne_iff_ne, bne_eq_false_iff_eq, ne_eq] at *); omega, by (try simp only [decide_eq_true_eq, decide_eq_false_iff_not, beq_iff_eq, beq_eq_false_iff_ne, bne_iff_ne, bne_eq_false_iff_eq, ne_eq] at *); omega, .cons rfl .nil, (by repeat (first | exact Agree.refl _ _ | exact Agree.mix rfl | refine Agree.put rfl ?_ | refine Agree.keep rfl ?_)), fun _ h => by rw [foldQ_take hq, putQ]; exact h.sub (.cons_cons _ (.cons _ (List.Sublist.refl _)))⟩
        · refine c_exit rfl ?_
          refine c_seq ?_
          obtain rfl : 41 = k := by (try simp only [decide_eq_true_eq, decide_eq_false_iff_not, beq_iff_eq, beq_eq_false_iff_ne, bne_iff_ne, bne_eq_false_iff_eq, ne_eq] at *); omega
          rw [show PL.take 41 = PL from rfl]
          have hQl : (PL.foldl putQ startP).length = 256 := by rw [foldQ_len, startP_len]
          obtain ⟨PQ, hPQ⟩ : ∃ X, PL.foldl putQ startP = X := ⟨_, rfl⟩
          rw [hPQ]
          rw [hPQ] at hQl
          refine c_region ?_
          refine l_l rfl rfl rfl ?_
          refine l_nil ?_
          refine c_block ?_
          refine c_loop (σ := Nat) [9, 104, 105, 106, 107, 108, 109, 110, 111, 112, 113, 114, 115, 116, 117, 118] (fun y => [(104, .int .i64 y)]) (fun y => (b, blk (tabL u1 u2 u3 (rstP PQ y) tabB) 54) :: ((b65, blk (flat cPl L) 69) :: GL)) (fun y => y ≤ 8) (fun y => 8 - y) 0 ?_ ?_ ?_ ?_
          · exact Nat.zero_le _
          · exact .cons rfl .nil
          · exact fun _ h => by simp only [rstP_zero]; exact h
          · intro y y26 hy
            refine c_seq ?_
            refine c_region ?_
            refine l_l rfl rfl rfl ?_
            refine l_nil ?_
            refine c_seq ?_
            refine c_cond rfl (fun h7 => ?_) (fun h7 => ?_)
            · refine c_skip ?_
              refine c_seq ?_
              refine c_block ?_
              refine c_seq ?_
              refine c_region ?_
              refine l_l rfl rfl rfl ?_
              refine l_l rfl rfl rfl ?_
              refine l_nil ?_
              have hy8 : y < 8 := by (try simp only [decide_eq_true_eq, decide_eq_false_iff_not, beq_iff_eq, beq_eq_false_iff_ne, bne_iff_ne, bne_eq_false_iff_eq, ne_eq] at *); omega
              have hP : (rstP PQ y).length = 256 := by rw [rstP_len]; exact hQl
              have hB : tabB.length = 256 := by simp [tabB]
              refine c_region ?_
              refine l_l rfl rfl rfl ?_
              refine l_l rfl rfl rfl ?_
              refine l_as (v := (.int .i64 ((8 * y : Nat) : Int))) rfl rfl rfl (congrArg _ (by rw [wrap_i64 (by omega) (by omega)]; omega)) ?_
              refine l_as (v := (.int .i64 ((199 + 8 * y : Nat) : Int))) rfl rfl rfl (congrArg _ (by rw [wrap_i64 (by omega) (by omega)]; omega)) ?_
              refine l_l rfl rfl rfl ?_
              refine l_as (v := (.int .i64 ((8 * y : Nat) : Int))) rfl rfl rfl (congrArg _ (by rw [wrap_i64 (by omega) (by omega)]; omega)) ?_
              refine l_as (v := (.int .u16 ((8 * y : Nat) : Int))) rfl rfl rfl (congrArg _ (wrap_u16_id (by omega) (by omega))) ?_
              refine l_l (light_struct rfl rfl rfl rfl) rfl rfl ?_
              refine l_l rfl rfl rfl ?_
              refine l_l (light_fa rfl rfl) rfl rfl ?_
              refine l_l (idx_array (s := 5) (199 + 8 * y) rfl rfl rfl rfl (by (try simp only [decide_eq_true_eq, decide_eq_false_iff_not, beq_iff_eq, beq_eq_false_iff_ne, bne_iff_ne, bne_eq_false_iff_eq, ne_eq] at *); omega)) rfl rfl ?_
              refine l_x (x_store (vs := cO ⟨28, 0, 0, 1, ((8 * y : Nat) : Int)⟩) 0 rfl rfl rfl rfl rfl rfl (by rw [tabL_len hP hB, cO_len]; omega)) rfl rfl ?_
              rintro _ _ ⟨rfl, rfl⟩
              simp only [List.set_cons_zero]
              rw [show 0 + 3 + (199 + 8 * y) * 5 = 3 + (199 + 8 * y) * 5 by omega, tabL_setP hP (by omega), ← rstP_succ]
              refine l_nil ?_
              refine c_region ?_
              refine l_as (v := (.int .i64 ((y + 1 : Nat) : Int))) rfl rfl rfl (congrArg _ (succ_law (by omega))) ?_
              refine l_l rfl rfl rfl ?_
              refine l_nil ?_
              exact ⟨y + 1, by (try simp only [decide_eq_true_eq, decide_eq_false_iff_not, beq_iff_eq, beq_eq_false_iff_ne, bne_iff_ne, bne_eq_false_iff_eq, ne_eq] at *); omega, by (try simp only [decide_eq_true_eq, decide_eq_false_iff_not, beq_iff_eq, beq_eq_false_iff_ne, bne_iff_ne, bne_eq_false_iff_eq, ne_eq] at *); omega, .cons rfl .nil, (by repeat (first | exact Agree.refl _ _ | exact Agree.mix rfl | refine Agree.put rfl ?_ | refine Agree.keep rfl ?_)), fun _ h => h⟩
            · refine c_exit rfl ?_
              obtain rfl : 8 = y := by (try simp only [decide_eq_true_eq, decide_eq_false_iff_not, beq_iff_eq, beq_eq_false_iff_ne, bne_iff_ne, bne_eq_false_iff_eq, ne_eq] at *); omega
              rw [← hPQ, tab_eq]
              exact l_end (fun _ _ => rets_none) (.cons_cons _ (List.nil_sublist _)) ⟨rfl, rfl⟩

end Go.Proofs.Ytmihilhmdcndfaa
