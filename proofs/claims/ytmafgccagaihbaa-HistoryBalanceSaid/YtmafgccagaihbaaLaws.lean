/- The contracts of the laws of many calls, and of calls that return. -/
import Derived.Test.YtmafgccagaihbaaAwake
import Derived.Test.YtmafgccagaihbaaDeep
import Derived.Test.YtmafgccagaihbaaCalls
namespace Go.Proofs.Ytmafgccagaihbaa
open Go Go.VV Go.Proofs
set_option linter.unusedSimpArgs false
set_option linter.unusedVariables false
set_option maxRecDepth 100000
theorem deep_fn (x y : Int) (hx : 0 ≤ x ∧ x < 65536) (hy : 0 ≤ y ∧ y < 65536) (w : World) :
    Does Try.prog 3 [.int .u16 x, .int .u16 y] w [] (fun v H => H = [] ∧ v = .bool true) := by
  refine does_of Try.func3 rfl rfl rfl (St.refl w) ?_
  refine c_seq ?_
  refine c_region ?_
  refine l_l rfl rfl rfl ?_
  refine l_nil ?_
  refine c_seq ?_
  refine c_seq ?_
  refine c_region ?_
  refine l_x (x_val call_9 rfl (fun w hw => awake_fn w)) rfl rfl ?_
  rintro _ _ ⟨rfl, rfl⟩
  refine l_sure false rfl rfl rfl rfl ?_
  refine l_nil ?_
  refine c_false rfl ?_
  refine c_skip ?_
  refine c_seq ?_
  refine c_region ?_
  refine l_x (x_call call_10 rfl (fun w hw => new_fn 1 w)) rfl rfl ?_
  rintro _ _ ⟨G5, ⟨b5, rfl, hH5⟩, rfl⟩
  refine l_l rfl rfl rfl ?_
  refine l_nil ?_
  refine c_seq ?_
  refine c_region ?_
  refine l_l rfl rfl rfl ?_
  refine l_as (v := (.int .i64 x)) rfl rfl rfl (congrArg _ (wrap_i64 (by omega) (by omega))) ?_
  refine l_as (v := (.int .i64 ((x.toNat % 600 : Nat) : Int))) (rem_pos rfl rfl (by decide)) rfl rfl (congrArg _ (toN_600 hx.1)) ?_
  refine l_l rfl rfl rfl ?_
  refine l_as (v := (.int .i64 y)) rfl rfl rfl (congrArg _ (wrap_i64 (by omega) (by omega))) ?_
  refine l_as (v := (.int .i64 ((y.toNat % 600 : Nat) : Int))) (rem_pos rfl rfl (by decide)) rfl rfl (congrArg _ (toN_600 hy.1)) ?_
  refine l_l rfl rfl rfl ?_
  refine l_l rfl rfl rfl ?_
  refine l_nil ?_
  refine c_seq ?_
  refine c_seq ?_
  have hn : x.toNat % 600 < 600 := Nat.mod_lt _ (by decide)
  have hk : y.toNat % 600 < 600 := Nat.mod_lt _ (by decide)
  generalize x.toNat % 600 = n at *
  generalize y.toNat % 600 = k at *
  refine c_region ?_
  refine l_l rfl rfl rfl ?_
  refine l_l rfl rfl rfl ?_
  refine l_nil ?_
  refine c_block ?_
  refine c_loop (σ := Nat × List Rcd × Heap) [4, 8, 22, 23, 24, 25, 26, 27, 28, 29, 30, 31, 32, 33, 34, 35, 36, 37, 38, 39, 40] (fun s => [(22, .int .i64 s.1)]) (fun s => s.2.2) (fun s => s.1 ≤ n ∧ HistH b5 1 s.1 (cr s.1) s.2.1 s.2.2) (fun s => n - s.1) (0, List.replicate 32 r0, G5) ?_ ?_ ?_ ?_
  · exact ⟨Nat.zero_le _, hH5⟩
  · exact .cons rfl .nil
  · exact fun _ h => h.as (by simp)
  · rintro ⟨j, ring, G⟩ y6 ⟨hj, hH⟩
    dsimp only at hj hH ⊢
    refine c_seq ?_
    refine c_region ?_
    refine l_l rfl rfl rfl ?_
    refine l_nil ?_
    refine c_seq ?_
    refine c_cond rfl (fun h1 => ?_) (fun h1 => ?_)
    · refine c_skip ?_
      refine c_seq ?_
      refine c_block ?_
      refine c_seq ?_
      refine c_region ?_
      refine l_l rfl rfl rfl ?_
      refine l_l rfl rfl rfl ?_
      refine l_nil ?_
      refine c_seq ?_
      refine c_region ?_
      refine l_l rfl rfl rfl ?_
      refine l_l rfl rfl rfl ?_
      refine l_as (v := (.int .u64 ((j : Nat) : Int))) rfl rfl rfl (congrArg _ (wrap_u64_id (by omega) (by omega))) ?_
      refine l_l rfl rfl rfl ?_
      refine l_as (v := (.int .u16 ((j : Nat) : Int))) rfl rfl rfl (congrArg _ (wrap_u16_id (by omega) (by omega))) ?_
      refine l_l (light_struct rfl rfl rfl rfl) rfl rfl ?_
      refine l_l (light_struct rfl rfl rfl rfl) rfl rfl ?_
      refine l_x (x_callA call_11 rfl (fun w hw => note_fn b5 1 j (cr j) ring (by decide) (by decide) (by omega) (by rw [cr_len]; omega) G w hH (St.lentA hw) (rstS j) (rstS_ok (by omega)))) rfl rfl ?_
      rintro _ G' ⟨rfl, hH'⟩
      rw [cr_step] at hH'
      refine l_nil ?_
      refine c_seq ?_
      refine c_region ?_
      refine l_l rfl rfl rfl ?_
      refine l_x (x_call call_12 rfl (fun w hw => calls_fn b5 1 (j + 1) (cr (j + 1)) _ (by rw [cr_len]; omega) w (hH'.histW hw (fun _ h => h)))) rfl rfl ?_
      rintro v34 _ ⟨G34, hV34, rfl⟩
      obtain ⟨a34, c34, rfl, _, _, _⟩ := hV34.rows cC_len (by decide)
      refine l_l (by first | exact light_len rfl rfl | exact light_lens rfl rfl | rfl) rfl rfl ?_
      refine l_l rfl rfl rfl ?_
      refine l_as (v := (.int .i64 ((j + 1 : Nat) : Int))) rfl rfl rfl (congrArg _ (succ_law (by omega))) ?_
      refine l_l (light_min rfl rfl) rfl rfl ?_
      refine l_sure false rfl rfl rfl (by rw [cr_len]; simp; omega) ?_
      refine l_nil ?_
      refine c_false rfl ?_
      refine c_skip ?_
      refine c_region ?_
      refine l_as (v := (.int .i64 ((j + 1 : Nat) : Int))) rfl rfl rfl (congrArg _ (succ_law (by omega))) ?_
      refine l_l rfl rfl rfl ?_
      refine l_nil ?_
      exact ⟨(j + 1, _, G'), ⟨by (try simp only [decide_eq_true_eq, decide_eq_false_iff_not, beq_iff_eq, beq_eq_false_iff_ne, bne_iff_ne, bne_eq_false_iff_eq, ne_eq] at *); omega, hH'⟩, by (try simp only [decide_eq_true_eq, decide_eq_false_iff_not, beq_iff_eq, beq_eq_false_iff_ne, bne_iff_ne, bne_eq_false_iff_eq, ne_eq] at *); omega, .cons rfl .nil, (by repeat (first | exact Agree.refl _ _ | exact Agree.mix rfl | refine Agree.put rfl ?_ | refine Agree.keep rfl ?_)), fun _ h => h.sub (List.sublist_append_right _ _)⟩
    · refine c_exit rfl ?_
      refine c_seq ?_
      refine c_seq ?_
      obtain rfl : n = j := by (try simp only [decide_eq_true_eq, decide_eq_false_iff_not, beq_iff_eq, beq_eq_false_iff_ne, bne_iff_ne, bne_eq_false_iff_eq, ne_eq] at *); omega
      refine c_region ?_
      refine l_l rfl rfl rfl ?_
      refine l_l rfl rfl rfl ?_
      refine l_nil ?_
      refine c_block ?_
      refine c_loop (σ := Nat × List Rcd × Heap) [9, 42, 43, 44, 45, 46, 47, 48, 49, 50, 51, 52, 53] (fun s => [(42, .int .i64 s.1)]) (fun s => s.2.2) (fun s => s.1 ≤ k ∧ HistH b5 1 (n + s.1) ((cr n).take ((cr n).length - s.1)) s.2.1 s.2.2) (fun s => k - s.1) (0, ring, G) ?_ ?_ ?_ ?_
      · exact ⟨Nat.zero_le _, by simpa using hH⟩
      · exact .cons rfl .nil
      · exact fun _ h => h
      · rintro ⟨i, ring, G⟩ y13 ⟨hi, hH⟩
        dsimp only at hi hH ⊢
        refine c_seq ?_
        refine c_region ?_
        refine l_l rfl rfl rfl ?_
        refine l_nil ?_
        refine c_seq ?_
        refine c_cond rfl (fun h2 => ?_) (fun h2 => ?_)
        · refine c_skip ?_
          refine c_seq ?_
          refine c_block ?_
          refine c_seq ?_
          refine c_region ?_
          refine l_l rfl rfl rfl ?_
          refine l_l rfl rfl rfl ?_
          refine l_nil ?_
          refine c_region ?_
          refine l_l rfl rfl rfl ?_
          refine l_l rfl rfl rfl ?_
          refine l_l rfl rfl rfl ?_
          refine l_as (v := (.int .i64 ((n + i : Nat) : Int))) rfl rfl rfl (congrArg _ (by rw [wrap_i64 (by omega) (by omega)]; omega)) ?_
          refine l_as (v := (.int .u64 ((n + i : Nat) : Int))) rfl rfl rfl (congrArg _ (wrap_u64_id (by omega) (by omega))) ?_
          refine l_l (light_struct rfl rfl rfl rfl) rfl rfl ?_
          refine l_l (light_struct rfl rfl rfl rfl) rfl rfl ?_
          refine l_x (x_callA call_11 rfl (fun w hw => note_fn b5 1 (n + i) _ ring (by decide) (by decide) (by omega) (by rw [List.length_take, cr_len]; omega) G w hH (St.lentA hw) (retS ((n + i : Nat) : Int)) (retS_ok _))) rfl rfl ?_
          rintro _ G' ⟨rfl, hH'⟩
          rw [ret_step] at hH'
          refine l_nil ?_
          refine c_region ?_
          refine l_as (v := (.int .i64 ((i + 1 : Nat) : Int))) rfl rfl rfl (congrArg _ (succ_law (by omega))) ?_
          refine l_l rfl rfl rfl ?_
          refine l_nil ?_
          exact ⟨(i + 1, _, G'), ⟨by (try simp only [decide_eq_true_eq, decide_eq_false_iff_not, beq_iff_eq, beq_eq_false_iff_ne, bne_iff_ne, bne_eq_false_iff_eq, ne_eq] at *); omega, hH'⟩, by (try simp only [decide_eq_true_eq, decide_eq_false_iff_not, beq_iff_eq, beq_eq_false_iff_ne, bne_iff_ne, bne_eq_false_iff_eq, ne_eq] at *); omega, .cons rfl .nil, (by repeat (first | exact Agree.refl _ _ | exact Agree.mix rfl | refine Agree.put rfl ?_ | refine Agree.keep rfl ?_)), fun _ h => h⟩
        · refine c_exit rfl ?_
          refine c_seq ?_
          obtain rfl : k = i := by (try simp only [decide_eq_true_eq, decide_eq_false_iff_not, beq_iff_eq, beq_eq_false_iff_ne, bne_iff_ne, bne_eq_false_iff_eq, ne_eq] at *); omega
          refine c_region ?_
          refine l_l rfl rfl rfl ?_
          refine l_x (x_call call_12 rfl (fun w hw => calls_fn b5 1 (n + k) _ _ (by rw [List.length_take, cr_len]; omega) w (hH.histW hw (fun _ h => h)))) rfl rfl ?_
          rintro v55 _ ⟨G55, hV55, rfl⟩
          obtain ⟨a55, c55, rfl, _, hc55, hr55⟩ := hV55.rows cC_len (by decide)
          have hl55 : ((cr n).take ((cr n).length - k)).length = min (min n 256) (min n 256 - k) := by rw [List.length_take, cr_len]; omega
          refine l_l rfl rfl rfl ?_
          refine l_nil ?_
          refine c_seq ?_
          refine c_seq ?_
          refine c_region ?_
          refine l_l rfl rfl rfl ?_
          refine l_l (by first | exact light_len rfl rfl | exact light_lens rfl rfl | rfl) rfl rfl ?_
          refine l_l rfl rfl rfl ?_
          refine l_l (light_min rfl rfl) rfl rfl ?_
          refine l_l rfl rfl rfl ?_
          refine l_as (v := (.int .i64 (min (n : Int) 256 - k))) rfl rfl rfl (congrArg _ (wrap_i64 (by omega) (by omega))) ?_
          refine l_l (light_max rfl rfl) rfl rfl ?_
          refine l_sure false rfl rfl rfl (by rw [hl55]; simp; omega) ?_
          refine l_nil ?_
          refine c_false rfl ?_
          refine c_skip ?_
          refine c_seq ?_
          refine c_seq ?_
          refine c_region ?_
          refine l_l rfl rfl rfl ?_
          refine l_l (by first | exact light_len rfl rfl | exact light_lens rfl rfl | rfl) rfl rfl ?_
          refine l_l rfl rfl rfl ?_
          refine l_nil ?_
          refine c_block ?_
          refine c_loopk (σ := Nat) [4, 11, 66, 67, 68, 69, 70, 71, 72, 73, 74, 75, 76, 77, 78, 79, 80, 81, 82, 83, 84, 85, 86, 87, 88, 89, 90, 91, 92, 93, 94, 95] (fun q => [(66, .int .i64 q)]) (fun q => q ≤ ((cr n).take ((cr n).length - k)).length) (fun q => ((cr n).take ((cr n).length - k)).length - q) 0 ?_ ?_ ?_
          · exact Nat.zero_le _
          · exact .cons rfl .nil
          · intro q y21 hq
            refine c_seq ?_
            refine c_region ?_
            refine l_l rfl rfl rfl ?_
            refine l_nil ?_
            refine c_seq ?_
            refine c_cond rfl (fun h3 => ?_) (fun h3 => ?_)
            · refine c_skip ?_
              refine c_seq ?_
              refine c_block ?_
              refine c_seq ?_
              refine c_region ?_
              refine l_l rfl rfl rfl ?_
              refine l_l rfl rfl rfl ?_
              refine l_nil ?_
              refine c_seq ?_
              obtain ⟨b9, rfl, hr9⟩ := hr55 (by (try simp only [decide_eq_true_eq, decide_eq_false_iff_not, beq_iff_eq, beq_eq_false_iff_ne, bne_iff_ne, bne_eq_false_iff_eq, ne_eq] at *); omega)
              have hg9 := crt_get (j := n) (m := (cr n).length - k) (i := q) (by rw [cr_len]; (try simp only [decide_eq_true_eq, decide_eq_false_iff_not, beq_iff_eq, beq_eq_false_iff_ne, bne_iff_ne, bne_eq_false_iff_eq, ne_eq] at *); omega)
              refine c_draw _ [5, 6, 7, 8, 9, 10, 18, 19, 20, 21, 22, 23] (.step true 0 (.step true 1 (.step true 2 (.step true 3 (.step true 4 (.step true 5 (.step true 6 (.step true 7 (.step true 8 (.step true 9 (.step true 10 (.step true 11 (.step true 12 (.step true 13 (.step true 14 (.step true 15 (.step true 16 (.step true 17 (.step true 18 (.step true 19 (.step true 20 (.step true 21 (.step true 22 (.step true 23 (.step true 24 (.step true 25 .done)))))))))))))))))))))))))) rfl (by kernel_rfl) (by kernel_rfl) (fun _ h => h) ?_
              refine d_light rfl rfl rfl rfl rfl ?_
              refine d_light rfl rfl rfl rfl rfl ?_
              refine d_light rfl (idx_slice (s := 5) q rfl rfl rfl rfl (by (try simp only [decide_eq_true_eq, decide_eq_false_iff_not, beq_iff_eq, beq_eq_false_iff_ne, bne_iff_ne, bne_eq_false_iff_eq, ne_eq] at *); omega)) rfl rfl rfl ?_
              refine d_light rfl (light_fa rfl rfl) rfl rfl rfl ?_
              refine d_load rfl rfl rfl (fun w hw => (hr9.srow (fun x hx => List.mem_append_left _ hx) w hw).at cC_len hg9 2 rfl) rfl rfl ?_
              refine d_light rfl rfl rfl rfl rfl ?_
              refine d_as (v := (.int .i64 ((n : Int) - 256))) rfl rfl rfl rfl rfl (congrArg _ (wrap_i64 (by omega) (by omega))) ?_
              refine d_light rfl (light_max rfl rfl) rfl rfl rfl ?_
              refine d_light rfl rfl rfl rfl rfl ?_
              refine d_as (v := (.int .i64 ((n - 256 + q : Nat) : Int))) rfl rfl rfl rfl rfl (congrArg _ (by rw [wrap_i64 (by omega) (by omega)]; omega)) ?_
              refine d_as (v := (.int .u16 ((n - 256 + q : Nat) : Int))) rfl rfl rfl rfl rfl (congrArg _ (wrap_u16_id (by omega) (by (try simp only [decide_eq_true_eq, decide_eq_false_iff_not, beq_iff_eq, beq_eq_false_iff_ne, bne_iff_ne, bne_eq_false_iff_eq, ne_eq] at *); omega))) ?_
              refine d_sure false rfl rfl rfl rfl (by simp [rst]) ?_
              refine d_light rfl rfl rfl rfl rfl ?_
              refine d_light rfl rfl rfl rfl rfl ?_
              refine d_light rfl rfl rfl rfl rfl ?_
              refine d_light rfl (idx_slice (s := 5) q rfl rfl rfl rfl (by (try simp only [decide_eq_true_eq, decide_eq_false_iff_not, beq_iff_eq, beq_eq_false_iff_ne, bne_iff_ne, bne_eq_false_iff_eq, ne_eq] at *); omega)) rfl rfl rfl ?_
              refine d_light rfl (light_fa rfl rfl) rfl rfl rfl ?_
              refine d_load rfl rfl rfl (fun w hw => (hr9.srow (fun x hx => List.mem_append_left _ hx) w hw).at cC_len hg9 4 rfl) rfl rfl ?_
              refine d_light rfl rfl rfl rfl rfl ?_
              refine d_light rfl rfl rfl rfl rfl ?_
              refine d_light rfl (idx_slice (s := 5) q rfl rfl rfl rfl (by (try simp only [decide_eq_true_eq, decide_eq_false_iff_not, beq_iff_eq, beq_eq_false_iff_ne, bne_iff_ne, bne_eq_false_iff_eq, ne_eq] at *); omega)) rfl rfl rfl ?_
              refine d_light rfl (light_fa rfl rfl) rfl rfl rfl ?_
              refine d_load rfl rfl rfl (fun w hw => (hr9.srow (fun x hx => List.mem_append_left _ hx) w hw).at cC_len hg9 2 rfl) rfl rfl ?_
              refine d_as (v := (.int .u16 ((((n - 256 + q : Nat) : Int) + 1) % 65536))) rfl rfl rfl rfl rfl (congrArg _ (wrap_u16 _)) ?_
              refine d_sure false rfl rfl rfl rfl (by simp [rst]) ?_
              refine d_light rfl rfl rfl rfl rfl ?_
              refine d_nil ?_
              refine c_false rfl ?_
              refine c_skip ?_
              refine c_region ?_
              refine l_as (v := (.int .i64 ((q + 1 : Nat) : Int))) rfl rfl rfl (congrArg _ (succ_law (by omega))) ?_
              refine l_l rfl rfl rfl ?_
              refine l_nil ?_
              exact ⟨q + 1, by (try simp only [decide_eq_true_eq, decide_eq_false_iff_not, beq_iff_eq, beq_eq_false_iff_ne, bne_iff_ne, bne_eq_false_iff_eq, ne_eq] at *); omega, by (try simp only [decide_eq_true_eq, decide_eq_false_iff_not, beq_iff_eq, beq_eq_false_iff_ne, bne_iff_ne, bne_eq_false_iff_eq, ne_eq] at *); omega, .cons rfl .nil, (by repeat (first | exact Agree.refl _ _ | exact Agree.mix rfl | refine Agree.put rfl ?_ | refine Agree.keep rfl ?_)), fun _ h => h⟩
            · refine c_exit rfl ?_
              refine c_seq ?_
              refine c_region ?_
              refine l_l rfl rfl rfl ?_
              refine l_nil ?_
              refine c_ret ?_
              exact l_end0 (fun _ _ => rets_v rfl) ⟨rfl, rfl⟩

end Go.Proofs.Ytmafgccagaihbaa
