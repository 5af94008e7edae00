/- The contracts of the small functions of times. -/
import Derived.Test.YtkifhldkhemdlaaHeap
import Derived.Test.YtkifhldkhemdlaaProg
import Derived.Test.YtkifhldkhemdlaaCalls
namespace Go.Proofs.Ytkifhldkhemdlaa
open Go Go.VV Go.Proofs
set_option linter.unusedSimpArgs false
set_option linter.unusedVariables false
theorem new_fn (n : Int) (w : World) :
    Does Try.prog 10 [.int .i64 n] w [] (fun v H => ∃ b, v = .pointer (some ⟨b, 0, none⟩) ∧ H = [(b, blk [.slice none 0 0, .int .i64 (max 2 (min n 256))] 53)]) := by
  refine does_of Try.func10 rfl rfl rfl (St.refl w) ?_
  refine c_seq ?_
  refine c_region ?_
  refine l_l rfl rfl rfl ?_
  refine l_nil ?_
  refine c_seq ?_
  refine c_region ?_
  refine l_l rfl rfl rfl ?_
  refine l_l (light_min rfl rfl) rfl rfl ?_
  refine l_l (light_max rfl rfl) rfl rfl ?_
  refine l_l (light_struct rfl rfl rfl rfl) rfl rfl ?_
  refine l_x (x_box rfl rfl) rfl rfl ?_
  rintro _ _ ⟨b7, rfl, rfl⟩
  refine l_l rfl rfl rfl ?_
  refine l_nil ?_
  refine c_ret ?_
  exact l_end (fun _ _ => rets_v rfl) (List.Sublist.refl _) ⟨_, rfl, rfl⟩

theorem rnew_fn (n : Int) (w : World) :
    Does Try.prog 15 [.int .i64 n] w [] (fun v H => ∃ b, v = .pointer (some ⟨b, 0, none⟩) ∧ H = [(b, blk [.slice none 0 0, .int .i64 (max 2 (min n 256)), .bool false] 47)]) := by
  refine does_of Try.func15 rfl rfl rfl (St.refl w) ?_
  refine c_seq ?_
  refine c_region ?_
  refine l_l rfl rfl rfl ?_
  refine l_nil ?_
  refine c_seq ?_
  refine c_region ?_
  refine l_l rfl rfl rfl ?_
  refine l_l (light_min rfl rfl) rfl rfl ?_
  refine l_l (light_max rfl rfl) rfl rfl ?_
  refine l_l (light_struct rfl rfl rfl rfl) rfl rfl ?_
  refine l_x (x_box rfl rfl) rfl rfl ?_
  rintro _ _ ⟨b7, rfl, rfl⟩
  refine l_l rfl rfl rfl ?_
  refine l_nil ?_
  refine c_ret ?_
  exact l_end (fun _ _ => rets_v rfl) (List.Sublist.refl _) ⟨_, rfl, rfl⟩

theorem last_fn (b : Nat) (cap : Int) (ms : List Mark) (hlen : ms.length < 1000000000) (w : World) (hL : LineW w b cap ms) :
    Does Try.prog 19 [.pointer (some ⟨b, 0, none⟩)] w [] (fun v H => H = [] ∧ v = .tuple #[.int .u64 (lastT ms), .bool (decide (ms.length ≠ 0))]) := by
  obtain ⟨a, c, q0, qc, q1, hE⟩ := hL
  refine does_of Try.func19 rfl rfl rfl (St.refl w) ?_
  refine c_seq ?_
  refine c_region ?_
  refine l_l rfl rfl rfl ?_
  refine l_l rfl rfl rfl ?_
  refine l_nil ?_
  refine c_seq ?_
  refine c_seq ?_
  refine c_region ?_
  refine l_l rfl rfl rfl ?_
  refine l_l rfl rfl rfl ?_
  refine l_l rfl rfl rfl ?_
  refine l_l rfl rfl rfl ?_
  refine l_l rfl rfl rfl ?_
  refine l_l (light_fa rfl rfl) rfl rfl ?_
  refine l_x (x_load rfl rfl (at_old q0 (by simp))) rfl rfl ?_
  rintro _ _ ⟨rfl, rfl⟩
  refine l_l (by first | exact light_len rfl rfl | exact light_lens rfl rfl | rfl) rfl rfl ?_
  refine l_l rfl rfl rfl ?_
  refine l_l rfl rfl rfl ?_
  refine l_nil ?_
  refine c_cond rfl (fun h1 => ?_) (fun h1 => ?_)
  · refine c_seq ?_
    refine c_region ?_
    refine l_l rfl rfl rfl ?_
    refine l_l rfl rfl rfl ?_
    refine l_nil ?_
    refine c_ret ?_
    exact l_end0 (fun _ _ => rets_v2 rfl rfl) ⟨rfl, by rw [last_none (by (try simp only [decide_eq_true_eq, decide_eq_false_iff_not, beq_iff_eq, beq_eq_false_iff_ne, bne_iff_ne, bne_eq_false_iff_eq, ne_eq] at *); omega)]⟩
  · refine c_skip ?_
    refine c_seq ?_
    obtain ⟨br, off, rfl, hr⟩ := hE (by (try simp only [decide_eq_true_eq, decide_eq_false_iff_not, beq_iff_eq, beq_eq_false_iff_ne, bne_iff_ne, bne_eq_false_iff_eq, ne_eq] at *); omega)
    refine c_draw _ [4, 5, 6, 7, 8, 9] (.step true 0 (.step true 1 (.step true 2 (.step true 3 (.step true 4 (.step true 5 (.step true 6 (.step true 7 (.step true 8 (.step true 9 (.step true 10 (.step true 11 (.step true 12 (.step true 13 (.step true 14 .done))))))))))))))) rfl (by kernel_rfl) (by kernel_rfl) (fun _ h => h) ?_
    refine d_light rfl rfl rfl rfl rfl ?_
    refine d_light rfl rfl rfl rfl rfl ?_
    refine d_light rfl (light_fa rfl rfl) rfl rfl rfl ?_
    refine d_load rfl rfl rfl (s_old q0 (by simp)) rfl rfl ?_
    refine d_light rfl rfl rfl rfl rfl ?_
    refine d_light rfl rfl rfl rfl rfl ?_
    refine d_light rfl (light_fa rfl rfl) rfl rfl rfl ?_
    refine d_load rfl rfl rfl (s_old q0 (by simp)) rfl rfl ?_
    refine d_light rfl (by first | exact light_len rfl rfl | exact light_lens rfl rfl | rfl) rfl rfl rfl ?_
    refine d_as (v := (.int .i64 ((ms.length - 1 : Nat) : Int))) rfl rfl rfl rfl rfl (by simp only [Value.int.injEq, true_and]; rw [wrap_i64 (by omega) (by omega)]; (try simp only [decide_eq_true_eq, decide_eq_false_iff_not, beq_iff_eq, beq_eq_false_iff_ne, bne_iff_ne, bne_eq_false_iff_eq, ne_eq] at *); omega) ?_
    refine d_light rfl (idx_slice (ms.length - 1) rfl rfl rfl rfl (by (try simp only [decide_eq_true_eq, decide_eq_false_iff_not, beq_iff_eq, beq_eq_false_iff_ne, bne_iff_ne, bne_eq_false_iff_eq, ne_eq] at *); omega)) rfl rfl rfl ?_
    refine d_light rfl (light_fa rfl rfl) rfl rfl rfl ?_
    refine d_load rfl rfl rfl (s_old (mark_t hr (by (try simp only [decide_eq_true_eq, decide_eq_false_iff_not, beq_iff_eq, beq_eq_false_iff_ne, bne_iff_ne, bne_eq_false_iff_eq, ne_eq] at *); omega)) (by simp)) rfl rfl ?_
    refine d_light rfl rfl rfl rfl rfl ?_
    refine d_light rfl rfl rfl rfl rfl ?_
    refine d_nil ?_
    refine c_ret ?_
    exact l_end0 (fun _ _ => rets_v2 rfl rfl) ⟨rfl, by rw [last_some (by (try simp only [decide_eq_true_eq, decide_eq_false_iff_not, beq_iff_eq, beq_eq_false_iff_ne, bne_iff_ne, bne_eq_false_iff_eq, ne_eq] at *); omega)]⟩

theorem cmp_fn (m : Mark) (x : Int) (w : World) :
    Does Try.prog 29 [.agg (cm m).toArray, .int .u64 x] w [] (fun v H => H = [] ∧ v = .int .i64 (cmpI m.t x)) := by
  refine does_of Try.func29 rfl rfl rfl (St.refl w) ?_
  refine c_seq ?_
  refine c_region ?_
  refine l_x (x_box rfl rfl) rfl rfl ?_
  rintro _ _ ⟨b2, rfl, rfl⟩
  refine l_l rfl rfl rfl ?_
  refine l_nil ?_
  refine c_seq ?_
  refine c_block ?_
  refine c_seq ?_
  refine c_region ?_
  refine l_l (light_fa rfl rfl) rfl rfl ?_
  refine l_x (x_load rfl rfl (at_own (by repeat (first | exact .head _ | refine .tail _ ?_ | refine List.mem_append_right _ ?_)) (by rfl))) rfl rfl ?_
  rintro _ _ ⟨rfl, rfl⟩
  refine l_l rfl rfl rfl ?_
  refine l_l rfl rfl rfl ?_
  refine l_l rfl rfl rfl ?_
  refine l_nil ?_
  refine c_cond rfl (fun h1 => ?_) (fun h1 => ?_)
  · refine c_seq ?_
    refine c_region ?_
    refine l_l rfl rfl rfl ?_
    refine l_nil ?_
    refine c_ret ?_
    exact l_end0 (fun _ _ => rets_v rfl) ⟨rfl, congrArg _ (cmp_lt h1)⟩
  · refine c_seq ?_
    refine c_region ?_
    refine l_l (light_fa rfl rfl) rfl rfl ?_
    refine l_x (x_load rfl rfl (at_own (by repeat (first | exact .head _ | refine .tail _ ?_ | refine List.mem_append_right _ ?_)) (by rfl))) rfl rfl ?_
    rintro _ _ ⟨rfl, rfl⟩
    refine l_l rfl rfl rfl ?_
    refine l_l rfl rfl rfl ?_
    refine l_l rfl rfl rfl ?_
    refine l_nil ?_
    refine c_cond rfl (fun h2 => ?_) (fun h2 => ?_)
    · refine c_seq ?_
      refine c_region ?_
      refine l_l rfl rfl rfl ?_
      refine l_nil ?_
      refine c_ret ?_
      exact l_end0 (fun _ _ => rets_v rfl) ⟨rfl, congrArg _ (cmp_gt h1 h2)⟩
    · refine c_skip ?_
      refine c_seq ?_
      refine c_region ?_
      refine l_l rfl rfl rfl ?_
      refine l_nil ?_
      refine c_ret ?_
      exact l_end0 (fun _ _ => rets_v rfl) ⟨rfl, congrArg _ (cmp_eq h1 h2)⟩

theorem search_fn (a : Option Addr) (c : Nat) (ms : List Mark) (hR : Rise ms) (hlen : ms.length < 1000000000) (x : Int) (w : World) (hE : Els w cm a ms) :
    Does Try.prog 28 [.slice a ms.length c, .int .u64 x, .func (.func 29) #[] #[]] w [] (fun v H => H = [] ∧ v = .tuple #[.int .i64 (cntLt ms x), .bool (foundL ms x)]) := by
  refine does_of Try.func28 rfl rfl rfl (St.refl w) ?_
  refine c_seq ?_
  refine c_region ?_
  refine l_l rfl rfl rfl ?_
  refine l_l rfl rfl rfl ?_
  refine l_nil ?_
  refine c_seq ?_
  refine c_region ?_
  refine l_l rfl rfl rfl ?_
  refine l_l (by first | exact light_len rfl rfl | exact light_lens rfl rfl | rfl) rfl rfl ?_
  refine l_l rfl rfl rfl ?_
  refine l_nil ?_
  refine c_seq ?_
  refine c_region ?_
  refine l_l rfl rfl rfl ?_
  refine l_l rfl rfl rfl ?_
  refine l_l rfl rfl rfl ?_
  refine l_nil ?_
  refine c_seq ?_
  refine c_block ?_
  refine c_loopk (σ := Nat × Nat) [9, 10, 11, 15, 16, 17, 18, 19, 20, 21, 22, 23, 24, 25, 26, 27, 28, 29, 30, 31, 32, 33, 34] (fun s => [(9, .int .i64 s.1), (10, .int .i64 s.2)]) (fun s => s.1 ≤ cntLt ms x ∧ cntLt ms x ≤ s.2 ∧ s.2 ≤ ms.length) (fun s => s.2 - s.1) (0, ms.length) ?_ ?_ ?_
  · exact ⟨Nat.zero_le _, cntLt_le _ _, Nat.le_refl _⟩
  · exact .cons rfl (.cons rfl .nil)
  · rintro ⟨lo, hi⟩ y ⟨hlo, hcl, hhi⟩
    simp only at hlo hcl hhi ⊢
    refine c_seq ?_
    refine c_seq ?_
    refine c_region ?_
    refine l_l rfl rfl rfl ?_
    refine l_l rfl rfl rfl ?_
    refine l_l rfl rfl rfl ?_
    refine l_nil ?_
    refine c_cond rfl (fun h1 => ?_) (fun h1 => ?_)
    · refine c_skip ?_
      refine c_block ?_
      refine c_seq ?_
      refine c_region ?_
      refine l_l rfl rfl rfl ?_
      refine l_l rfl rfl rfl ?_
      refine l_l rfl rfl rfl ?_
      refine l_l rfl rfl rfl ?_
      refine l_l rfl rfl rfl ?_
      refine l_as (v := (.int .i64 (((lo + hi) / 2 : Nat) : Int))) rfl rfl rfl (congrArg _ (mid_law (by (try simp only [decide_eq_true_eq, decide_eq_false_iff_not, beq_iff_eq, beq_eq_false_iff_ne, bne_iff_ne, bne_eq_false_iff_eq, ne_eq] at *); omega) (by (try simp only [decide_eq_true_eq, decide_eq_false_iff_not, beq_iff_eq, beq_eq_false_iff_ne, bne_iff_ne, bne_eq_false_iff_eq, ne_eq] at *); omega))) ?_
      refine l_l rfl rfl rfl ?_
      refine l_nil ?_
      refine c_seq ?_
      obtain ⟨br, off, rfl, hr⟩ := hE (by (try simp only [decide_eq_true_eq, decide_eq_false_iff_not, beq_iff_eq, beq_eq_false_iff_ne, bne_iff_ne, bne_eq_false_iff_eq, ne_eq] at *); omega)
      refine c_region ?_
      refine l_l rfl rfl rfl ?_
      refine l_l rfl rfl rfl ?_
      refine l_l rfl rfl rfl ?_
      refine l_l (idx_slice ((lo + hi) / 2) rfl rfl rfl rfl (by (try simp only [decide_eq_true_eq, decide_eq_false_iff_not, beq_iff_eq, beq_eq_false_iff_ne, bne_iff_ne, bne_eq_false_iff_eq, ne_eq] at *); omega)) rfl rfl ?_
      refine l_x (x_loadA rfl rfl rfl (row_old (mark_row hr (by (try simp only [decide_eq_true_eq, decide_eq_false_iff_not, beq_iff_eq, beq_eq_false_iff_ne, bne_iff_ne, bne_eq_false_iff_eq, ne_eq] at *); omega)) (by simp))) rfl rfl ?_
      rintro _ _ ⟨rfl, rfl⟩
      refine l_l rfl rfl rfl ?_
      refine l_x (x_valV (A := []) (B := []) rfl call_29 rfl (fun w hw => cmp_fn _ x w)) rfl rfl ?_
      rintro _ _ ⟨rfl, rfl⟩
      refine l_l rfl rfl rfl ?_
      refine l_nil ?_
      refine c_cond rfl (fun h2 => ?_) (fun h2 => ?_)
      · refine c_region ?_
        refine l_l rfl rfl rfl ?_
        refine l_l rfl rfl rfl ?_
        refine l_l rfl rfl rfl ?_
        refine l_nil ?_
        exact ⟨((lo + hi) / 2 + 1, hi), ⟨srch_lt hR (by (try simp only [decide_eq_true_eq, decide_eq_false_iff_not, beq_iff_eq, beq_eq_false_iff_ne, bne_iff_ne, bne_eq_false_iff_eq, ne_eq] at *); omega) h2, hcl, hhi⟩, by (try simp only [decide_eq_true_eq, decide_eq_false_iff_not, beq_iff_eq, beq_eq_false_iff_ne, bne_iff_ne, bne_eq_false_iff_eq, ne_eq] at *); omega, .cons (congrArg _ (succ_law (by omega))) (.cons rfl .nil), (by repeat (first | exact Agree.refl _ _ | exact Agree.mix rfl | refine Agree.put rfl ?_ | refine Agree.keep rfl ?_)), fun _ h => h⟩
      · refine c_region ?_
        refine l_l rfl rfl rfl ?_
        refine l_l rfl rfl rfl ?_
        refine l_nil ?_
        exact ⟨(lo, (lo + hi) / 2), ⟨hlo, srch_ge hR (by (try simp only [decide_eq_true_eq, decide_eq_false_iff_not, beq_iff_eq, beq_eq_false_iff_ne, bne_iff_ne, bne_eq_false_iff_eq, ne_eq] at *); omega) h2, by (try simp only [decide_eq_true_eq, decide_eq_false_iff_not, beq_iff_eq, beq_eq_false_iff_ne, bne_iff_ne, bne_eq_false_iff_eq, ne_eq] at *); omega⟩, by (try simp only [decide_eq_true_eq, decide_eq_false_iff_not, beq_iff_eq, beq_eq_false_iff_ne, bne_iff_ne, bne_eq_false_iff_eq, ne_eq] at *); omega, .cons rfl (.cons rfl .nil), (by repeat (first | exact Agree.refl _ _ | exact Agree.mix rfl | refine Agree.put rfl ?_ | refine Agree.keep rfl ?_)), fun _ h => h⟩
    · refine c_exit rfl ?_
      refine c_seq ?_
      obtain rfl : lo = cntLt ms x := by (try simp only [decide_eq_true_eq, decide_eq_false_iff_not, beq_iff_eq, beq_eq_false_iff_ne, bne_iff_ne, bne_eq_false_iff_eq, ne_eq] at *); omega
      refine c_region ?_
      refine l_l rfl rfl rfl ?_
      refine l_l rfl rfl rfl ?_
      refine l_l rfl rfl rfl ?_
      refine l_l rfl rfl rfl ?_
      refine l_b rfl rfl rfl (fun h3 => ?_) (fun h3 => ?_)
      · refine l_l rfl rfl rfl ?_
        refine l_l rfl rfl rfl ?_
        refine l_l rfl rfl rfl ?_
        obtain ⟨br, off, rfl, hr⟩ := hE (by (try simp only [decide_eq_true_eq, decide_eq_false_iff_not, beq_iff_eq, beq_eq_false_iff_ne, bne_iff_ne, bne_eq_false_iff_eq, ne_eq] at *); omega)
        refine l_l (idx_slice (cntLt ms x) rfl rfl rfl rfl (by (try simp only [decide_eq_true_eq, decide_eq_false_iff_not, beq_iff_eq, beq_eq_false_iff_ne, bne_iff_ne, bne_eq_false_iff_eq, ne_eq] at *); omega)) rfl rfl ?_
        refine l_x (x_loadA rfl rfl rfl (row_old (mark_row hr (by (try simp only [decide_eq_true_eq, decide_eq_false_iff_not, beq_iff_eq, beq_eq_false_iff_ne, bne_iff_ne, bne_eq_false_iff_eq, ne_eq] at *); omega)) (by simp))) rfl rfl ?_
        rintro _ _ ⟨rfl, rfl⟩
        refine l_l rfl rfl rfl ?_
        refine l_x (x_valV (A := []) (B := []) rfl call_29 rfl (fun w hw => cmp_fn _ x w)) rfl rfl ?_
        rintro _ _ ⟨rfl, rfl⟩
        refine l_l rfl rfl rfl ?_
        refine l_l rfl rfl rfl ?_
        refine l_l rfl rfl rfl ?_
        refine l_l rfl rfl rfl ?_
        refine l_nil ?_
        refine c_ret ?_
        exact l_end0 (fun _ _ => rets_v2 rfl rfl) ⟨rfl, by rw [show (cmpI (ms.getD (cntLt ms x) m0).t x == 0) = foundL ms x from srch_hit hR (by (try simp only [decide_eq_true_eq, decide_eq_false_iff_not, beq_iff_eq, beq_eq_false_iff_ne, bne_iff_ne, bne_eq_false_iff_eq, ne_eq] at *); omega)]⟩
      · refine l_p rfl rfl ?_
        refine l_p rfl rfl ?_
        refine l_p rfl rfl ?_
        refine l_p rfl rfl ?_
        refine l_p rfl rfl ?_
        refine l_p rfl rfl ?_
        refine l_p rfl rfl ?_
        refine l_p rfl rfl ?_
        refine l_l rfl rfl rfl ?_
        refine l_l rfl rfl rfl ?_
        refine l_l rfl rfl rfl ?_
        refine l_nil ?_
        refine c_ret ?_
        exact l_end0 (fun _ _ => rets_v2 rfl rfl) ⟨rfl, by rw [found_end (ms := ms) (x := x) (by (try simp only [decide_eq_true_eq, decide_eq_false_iff_not, beq_iff_eq, beq_eq_false_iff_ne, bne_iff_ne, bne_eq_false_iff_eq, ne_eq] at *); omega)]⟩

theorem before_fn (b : Nat) (cap : Int) (ms : List Mark) (hR : Rise ms) (hlen : ms.length < 1000000000) (x : Int) (w : World) (hL : LineW w b cap ms) :
    Does Try.prog 23 [.pointer (some ⟨b, 0, none⟩), .int .u64 x] w [] (fun v H => H = [] ∧ v = .int .i64 (bef ms x)) := by
  obtain ⟨a, c, q0, qc, q1, hE⟩ := hL
  refine does_of Try.func23 rfl rfl rfl (St.refl w) ?_
  refine c_seq ?_
  refine c_region ?_
  refine l_l rfl rfl rfl ?_
  refine l_nil ?_
  refine c_seq ?_
  refine c_seq ?_
  refine c_region ?_
  refine l_l rfl rfl rfl ?_
  refine l_l rfl rfl rfl ?_
  refine l_nil ?_
  refine c_false rfl ?_
  refine c_skip ?_
  refine c_seq ?_
  refine c_region ?_
  refine l_l rfl rfl rfl ?_
  refine l_l rfl rfl rfl ?_
  refine l_l (light_fa rfl rfl) rfl rfl ?_
  refine l_x (x_load rfl rfl (at_old q0 (by simp))) rfl rfl ?_
  rintro _ _ ⟨rfl, rfl⟩
  refine l_l rfl rfl rfl ?_
  refine l_x (x_val call_28 rfl (fun w hw => search_fn a c ms hR hlen x w (hE.later0 hw))) rfl rfl ?_
  rintro _ _ ⟨rfl, rfl⟩
  refine l_l rfl rfl rfl ?_
  refine l_l rfl rfl rfl ?_
  refine l_l rfl rfl rfl ?_
  refine l_l rfl rfl rfl ?_
  refine l_l rfl rfl rfl ?_
  refine l_nil ?_
  refine c_seq ?_
  refine c_seq ?_
  refine c_region ?_
  refine l_l rfl rfl rfl ?_
  refine l_nil ?_
  refine c_cond rfl (fun h1 => ?_) (fun h1 => ?_)
  · refine c_seq ?_
    refine c_region ?_
    refine l_l rfl rfl rfl ?_
    refine l_l rfl rfl rfl ?_
    refine l_nil ?_
    refine c_ret ?_
    exact l_end0 (fun _ _ => rets_v rfl) ⟨rfl, congrArg _ (bef_hit hR h1)⟩
  · refine c_skip ?_
    refine c_seq ?_
    refine c_region ?_
    refine l_l rfl rfl rfl ?_
    refine l_l rfl rfl rfl ?_
    refine l_l rfl rfl rfl ?_
    refine l_nil ?_
    refine c_ret ?_
    exact l_end0 (fun _ _ => rets_v rfl) ⟨rfl, congrArg _ (bef_miss hR hlen h1)⟩

theorem clone_fn (a : Option Addr) (c : Nat) (l : List Int) (hl : l.length ≤ 140737488355328) (w : World) (hN : BytW w a l) :
    Does Try.prog 20 [.slice a l.length c] w [] (fun v H => Byt l v H) := by
  refine does_of Try.func20 rfl rfl rfl (St.refl w) ?_
  refine c_seq ?_
  refine c_region ?_
  refine l_l rfl rfl rfl ?_
  refine l_nil ?_
  refine c_seq ?_
  refine c_seq ?_
  rcases hN with ⟨rfl, rfl⟩ | ⟨ab, ao, rfl, hr⟩
  · refine c_region ?_
    refine l_l rfl rfl rfl ?_
    refine l_l rfl rfl rfl ?_
    refine l_nil ?_
    refine c_true rfl ?_
    refine c_seq ?_
    refine c_region ?_
    refine l_l rfl rfl rfl ?_
    refine l_nil ?_
    refine c_ret ?_
    exact l_end0 (fun _ _ => rets_v rfl) .nil
  · refine c_region ?_
    refine l_l rfl rfl rfl ?_
    refine l_l rfl rfl rfl ?_
    refine l_nil ?_
    refine c_false rfl ?_
    refine c_skip ?_
    refine c_seq ?_
    refine c_region ?_
    refine l_x (x_slc0 (el := 5) (n := 1) rfl) rfl rfl ?_
    rintro _ _ ⟨b5, rfl, rfl⟩
    refine l_l rfl rfl rfl ?_
    refine l_x (x_append (A := []) (G := [(b5, blk [] 5)]) (R := []) (v := .slice (some ⟨b5, 0, none⟩) 0 0) (n := 0) (xs := []) (m := l.length) (by_ := 1) (ys := l.map (.int .u8)) rfl rfl rfl rfl (.row b5 0 0 [] [] rfl rfl (by decide) (Nat.le_refl 0)) (fun w hw => .row _ _ _ _ _ (by simp : (l.map (Value.int .u8)).length = l.length * 1) (row_old hr (by simp) w hw)) (ones_int _ _) (by omega) (by omega)) rfl rfl ?_
    rintro v7 _ ⟨G7, hV7, hnil7, rfl⟩
    refine l_as' (v := v7) rfl rfl rfl ?_
    refine l_nil ?_
    refine c_ret ?_
    exact l_end (fun _ _ => rets_one rfl) (List.sublist_append_left _ _) (by rw [Nat.zero_add] at hV7; exact hV7)

theorem same2_fn (a1 a2 : Option Addr) (c1 c2 : Nat) (l1 l2 : List Int) (h1m : l1.length ≤ 140737488355328) (w : World) (hA : BytW w a1 l1) (hB : BytW w a2 l2) :
    Does Try.prog 13 [.slice a1 l1.length c1, .slice a2 l2.length c2] w [] (fun v H => H = [] ∧ v = .bool (decide (l1 = l2))) := by
  refine does_of Try.func13 rfl rfl rfl (St.refl w) ?_
  refine c_seq ?_
  refine c_region ?_
  refine l_l rfl rfl rfl ?_
  refine l_nil ?_
  refine c_seq ?_
  refine c_seq ?_
  refine c_region ?_
  refine l_l rfl rfl rfl ?_
  refine l_l (by first | exact light_len rfl rfl | exact light_lens rfl rfl | rfl) rfl rfl ?_
  refine l_l rfl rfl rfl ?_
  refine l_l (by first | exact light_len rfl rfl | exact light_lens rfl rfl | rfl) rfl rfl ?_
  refine l_l rfl rfl rfl ?_
  refine l_nil ?_
  refine c_cond rfl (fun h1 => ?_) (fun h1 => ?_)
  · refine c_seq ?_
    refine c_region ?_
    refine l_l rfl rfl rfl ?_
    refine l_nil ?_
    refine c_ret ?_
    exact l_end0 (fun _ _ => rets_v rfl) ⟨rfl, congrArg _ (same_len (by (try simp only [decide_eq_true_eq, decide_eq_false_iff_not, beq_iff_eq, beq_eq_false_iff_ne, bne_iff_ne, bne_eq_false_iff_eq, ne_eq] at *); omega)).symm⟩
  · refine c_skip ?_
    refine c_seq ?_
    refine c_seq ?_
    refine c_region ?_
    refine l_l rfl rfl rfl ?_
    refine l_l (by first | exact light_len rfl rfl | exact light_lens rfl rfl | rfl) rfl rfl ?_
    refine l_l rfl rfl rfl ?_
    refine l_nil ?_
    refine c_block ?_
    refine c_loopk (σ := Nat) [4, 5, 13, 14, 15, 16, 17, 18, 19, 20, 21, 22, 23, 24, 25] (fun k => [(13, .int .i64 k)]) (fun k => k ≤ l1.length ∧ ∀ j, j < k → l1.getD j 0 = l2.getD j 0) (fun k => l1.length - k) 0 ?_ ?_ ?_
    · exact ⟨by omega, by omega⟩
    · exact .cons rfl .nil
    · rintro k y ⟨hk, hj⟩
      refine c_seq ?_
      refine c_region ?_
      refine l_l rfl rfl rfl ?_
      refine l_nil ?_
      refine c_seq ?_
      refine c_cond rfl (fun h2 => ?_) (fun h2 => ?_)
      · refine c_skip ?_
        refine c_seq ?_
        refine c_block ?_
        refine c_seq ?_
        refine c_region ?_
        refine l_l rfl rfl rfl ?_
        refine l_l rfl rfl rfl ?_
        refine l_nil ?_
        refine c_seq ?_
        obtain ⟨b1, o1, rfl, r1⟩ := hA.ns.row (i := k) (by (try simp only [decide_eq_true_eq, decide_eq_false_iff_not, beq_iff_eq, beq_eq_false_iff_ne, bne_iff_ne, bne_eq_false_iff_eq, ne_eq] at *); omega)
        obtain ⟨b2, o2, rfl, r2⟩ := hB.ns.row (i := k) (by (try simp only [decide_eq_true_eq, decide_eq_false_iff_not, beq_iff_eq, beq_eq_false_iff_ne, bne_iff_ne, bne_eq_false_iff_eq, ne_eq] at *); omega)
        refine c_draw _ [4, 5, 6, 7] (.step true 0 (.step true 1 (.step true 2 (.step true 3 (.step true 4 (.step true 5 (.step true 6 (.step true 7 (.step true 8 .done))))))))) rfl (by kernel_rfl) (by kernel_rfl) (fun _ h => h) ?_
        refine d_light rfl rfl rfl rfl rfl ?_
        refine d_light rfl rfl rfl rfl rfl ?_
        refine d_light rfl (idx_slice1 k rfl rfl rfl rfl (by (try simp only [decide_eq_true_eq, decide_eq_false_iff_not, beq_iff_eq, beq_eq_false_iff_ne, bne_iff_ne, bne_eq_false_iff_eq, ne_eq] at *); omega)) rfl rfl rfl ?_
        refine d_load rfl rfl rfl (s_old (r1.int (by (try simp only [decide_eq_true_eq, decide_eq_false_iff_not, beq_iff_eq, beq_eq_false_iff_ne, bne_iff_ne, bne_eq_false_iff_eq, ne_eq] at *); omega)) (by simp)) rfl rfl ?_
        refine d_light rfl rfl rfl rfl rfl ?_
        refine d_light rfl rfl rfl rfl rfl ?_
        refine d_light rfl (idx_slice1 k rfl rfl rfl rfl (by (try simp only [decide_eq_true_eq, decide_eq_false_iff_not, beq_iff_eq, beq_eq_false_iff_ne, bne_iff_ne, bne_eq_false_iff_eq, ne_eq] at *); omega)) rfl rfl rfl ?_
        refine d_load rfl rfl rfl (s_old (r2.int (by (try simp only [decide_eq_true_eq, decide_eq_false_iff_not, beq_iff_eq, beq_eq_false_iff_ne, bne_iff_ne, bne_eq_false_iff_eq, ne_eq] at *); omega)) (by simp)) rfl rfl ?_
        refine d_light rfl rfl rfl rfl rfl ?_
        refine d_nil ?_
        refine c_cond rfl (fun h3 => ?_) (fun h3 => ?_)
        · refine c_seq ?_
          refine c_region ?_
          refine l_l rfl rfl rfl ?_
          refine l_nil ?_
          refine c_ret ?_
          exact l_end0 (fun _ _ => rets_v rfl) ⟨rfl, congrArg _ (same_no (k := k) (by (try simp only [decide_eq_true_eq, decide_eq_false_iff_not, beq_iff_eq, beq_eq_false_iff_ne, bne_iff_ne, bne_eq_false_iff_eq, ne_eq] at *); omega)).symm⟩
        · refine c_skip ?_
          refine c_region ?_
          refine l_l rfl rfl rfl ?_
          refine l_l rfl rfl rfl ?_
          refine l_nil ?_
          exact ⟨k + 1, ⟨by (try simp only [decide_eq_true_eq, decide_eq_false_iff_not, beq_iff_eq, beq_eq_false_iff_ne, bne_iff_ne, bne_eq_false_iff_eq, ne_eq] at *); omega, same_step hj (by (try simp only [decide_eq_true_eq, decide_eq_false_iff_not, beq_iff_eq, beq_eq_false_iff_ne, bne_iff_ne, bne_eq_false_iff_eq, ne_eq] at *); omega)⟩, by (try simp only [decide_eq_true_eq, decide_eq_false_iff_not, beq_iff_eq, beq_eq_false_iff_ne, bne_iff_ne, bne_eq_false_iff_eq, ne_eq] at *); omega, .cons (congrArg _ (succ_law (by omega))) .nil, (by repeat (first | exact Agree.refl _ _ | exact Agree.mix rfl | refine Agree.put rfl ?_ | refine Agree.keep rfl ?_)), fun _ h => h⟩
      · refine c_exit rfl ?_
        refine c_seq ?_
        refine c_region ?_
        refine l_l rfl rfl rfl ?_
        refine l_nil ?_
        refine c_ret ?_
        exact l_end0 (fun _ _ => rets_v rfl) ⟨rfl, congrArg _ (same_yes (by (try simp only [decide_eq_true_eq, decide_eq_false_iff_not, beq_iff_eq, beq_eq_false_iff_ne, bne_iff_ne, bne_eq_false_iff_eq, ne_eq] at *); omega) hj (by (try simp only [decide_eq_true_eq, decide_eq_false_iff_not, beq_iff_eq, beq_eq_false_iff_ne, bne_iff_ne, bne_eq_false_iff_eq, ne_eq] at *); omega)).symm⟩

theorem Before_fn (b : Nat) (cap : Int) (ms : List Mark) (hR : Rise ms) (hlen : ms.length < 1000000000) (x : Int) (w : World) (hL : LineW w b cap ms) (hD : DatW w ms) :
    Does Try.prog 12 [.pointer (some ⟨b, 0, none⟩), .int .u64 x] w [] (fun v H => ∃ dv, v = .tuple #[.int .u64 (befM ms x).t, dv, .bool (decide (0 ≤ bef ms x))] ∧ Byt (befM ms x).l dv H) := by
  obtain ⟨a, c, q0, qc, q1, hE⟩ := hL
  refine does_of Try.func12 rfl rfl rfl (St.refl w) ?_
  refine c_seq ?_
  refine c_region ?_
  refine l_l rfl rfl rfl ?_
  refine l_l rfl rfl rfl ?_
  refine l_l rfl rfl rfl ?_
  refine l_nil ?_
  refine c_seq ?_
  refine c_region ?_
  refine l_l rfl rfl rfl ?_
  refine l_l rfl rfl rfl ?_
  refine l_x (x_val call_23 rfl (fun w hw => before_fn b cap ms hR hlen x w (LineW.later0 ⟨a, c, q0, qc, q1, hE⟩ hw))) rfl rfl ?_
  rintro _ _ ⟨rfl, rfl⟩
  refine l_l rfl rfl rfl ?_
  refine l_nil ?_
  refine c_seq ?_
  refine c_seq ?_
  refine c_region ?_
  refine l_l rfl rfl rfl ?_
  refine l_l rfl rfl rfl ?_
  refine l_nil ?_
  refine c_cond rfl (fun h1 => ?_) (fun h1 => ?_)
  · refine c_seq ?_
    refine c_region ?_
    refine l_l rfl rfl rfl ?_
    refine l_l rfl rfl rfl ?_
    refine l_l rfl rfl rfl ?_
    refine l_nil ?_
    refine c_ret ?_
    exact l_end0 (fun _ _ => rets_v3 rfl rfl rfl) ⟨_, Before_none (by (try simp only [decide_eq_true_eq, decide_eq_false_iff_not, beq_iff_eq, beq_eq_false_iff_ne, bne_iff_ne, bne_eq_false_iff_eq, ne_eq] at *); omega), by rw [befM_none (by (try simp only [decide_eq_true_eq, decide_eq_false_iff_not, beq_iff_eq, beq_eq_false_iff_ne, bne_iff_ne, bne_eq_false_iff_eq, ne_eq] at *); omega)]; exact .nil⟩
  · refine c_skip ?_
    refine c_seq ?_
    obtain ⟨hb1, hb2⟩ := bef_lt (ms := ms) (x := x) (by (try simp only [decide_eq_true_eq, decide_eq_false_iff_not, beq_iff_eq, beq_eq_false_iff_ne, bne_iff_ne, bne_eq_false_iff_eq, ne_eq] at *); omega)
    obtain ⟨br, off, rfl, hr⟩ := hE (by omega)
    have hM := hD (ms.getD (bef ms x).toNat m0) (by rw [befM_some (by (try simp only [decide_eq_true_eq, decide_eq_false_iff_not, beq_iff_eq, beq_eq_false_iff_ne, bne_iff_ne, bne_eq_false_iff_eq, ne_eq] at *); omega)]; exact befM_mem (by (try simp only [decide_eq_true_eq, decide_eq_false_iff_not, beq_iff_eq, beq_eq_false_iff_ne, bne_iff_ne, bne_eq_false_iff_eq, ne_eq] at *); omega))
    refine c_draw _ [4, 8, 9, 10, 11, 12, 13, 14, 15, 16] (.step true 0 (.step true 1 (.step true 2 (.step true 3 (.step true 4 (.step true 5 (.step true 6 (.step true 7 (.step true 8 (.step true 9 (.step true 10 (.step true 11 (.step true 12 (.step true 13 (.step true 14 (.step true 15 (.step false 16 (.step true 17 (.step true 18 (.step true 19 .done)))))))))))))))))))) rfl (by kernel_rfl) (by kernel_rfl) (fun _ h => h) ?_
    refine d_light rfl rfl rfl rfl rfl ?_
    refine d_light rfl rfl rfl rfl rfl ?_
    refine d_light rfl (light_fa rfl rfl) rfl rfl rfl ?_
    refine d_load rfl rfl rfl (s_old q0 (by simp)) rfl rfl ?_
    refine d_light rfl rfl rfl rfl rfl ?_
    refine d_light rfl (idx_slice (bef ms x).toNat rfl rfl rfl hb2.symm hb1) rfl rfl rfl ?_
    refine d_light rfl (light_fa rfl rfl) rfl rfl rfl ?_
    refine d_load rfl rfl rfl (s_old (mark_t hr hb1) (by simp)) rfl rfl ?_
    refine d_light rfl rfl rfl rfl rfl ?_
    refine d_light rfl rfl rfl rfl rfl ?_
    refine d_light rfl (light_fa rfl rfl) rfl rfl rfl ?_
    refine d_load rfl rfl rfl (s_old q0 (by simp)) rfl rfl ?_
    refine d_light rfl rfl rfl rfl rfl ?_
    refine d_light rfl (idx_slice (bef ms x).toNat rfl rfl rfl hb2.symm hb1) rfl rfl rfl ?_
    refine d_light rfl (light_fa rfl rfl) rfl rfl rfl ?_
    refine d_load rfl rfl rfl (s_old (mark_d hr hb1) (by simp)) rfl rfl ?_
    refine d_x rfl (x_call call_20 rfl (fun w hw => clone_fn _ _ (ms.getD (bef ms x).toNat m0).l (hM.2.1) w (hM.2.2.later0 hw))) rfl rfl (by intro _ _ _ hK x hx; obtain ⟨G29, hV29, rfl⟩ := hK; repeat (first | exact hx | exact List.mem_append_left _ hx | refine List.mem_append_right _ ?_ | refine .tail _ ?_)) ?_
    rintro v29 _ ⟨G29, hV29, rfl⟩
    refine d_light rfl rfl rfl rfl rfl ?_
    refine d_as' (v := v29) rfl rfl rfl rfl ?_
    refine d_light rfl rfl rfl rfl rfl ?_
    refine d_nil ?_
    refine c_ret ?_
    exact l_end (fun _ _ => rets_three rfl rfl rfl) (List.sublist_append_left _ _) ⟨v29, Before_some (by (try simp only [decide_eq_true_eq, decide_eq_false_iff_not, beq_iff_eq, beq_eq_false_iff_ne, bne_iff_ne, bne_eq_false_iff_eq, ne_eq] at *); omega) v29, by rw [← befM_some (by (try simp only [decide_eq_true_eq, decide_eq_false_iff_not, beq_iff_eq, beq_eq_false_iff_ne, bne_iff_ne, bne_eq_false_iff_eq, ne_eq] at *); omega)]; exact hV29⟩

theorem marks_fn (b : Nat) (cap : Int) (ms : List Mark) (hlen : ms.length < 1000000000) (w : World) (hL : LineW w b cap ms) :
    Does Try.prog 14 [.pointer (some ⟨b, 0, none⟩)] w [] (fun v H => Vec 23 1 v ms.length ((times ms).map (.int .u64)) H) := by
  obtain ⟨a, c, q0, qc, q1, hE⟩ := hL
  refine does_of Try.func14 rfl rfl rfl (St.refl w) ?_
  refine c_seq ?_
  refine c_region ?_
  refine l_l rfl rfl rfl ?_
  refine l_nil ?_
  refine c_seq ?_
  refine c_seq ?_
  refine c_region ?_
  refine l_l rfl rfl rfl ?_
  refine l_l rfl rfl rfl ?_
  refine l_nil ?_
  refine c_false rfl ?_
  refine c_skip ?_
  refine c_seq ?_
  refine c_region ?_
  refine l_l rfl rfl rfl ?_
  refine l_nil ?_
  refine c_seq ?_
  refine c_seq ?_
  refine c_region ?_
  refine l_l rfl rfl rfl ?_
  refine l_l rfl rfl rfl ?_
  refine l_l (light_fa rfl rfl) rfl rfl ?_
  refine l_x (x_load rfl rfl (at_old q0 (by simp))) rfl rfl ?_
  rintro _ _ ⟨rfl, rfl⟩
  refine l_l (by first | exact light_len rfl rfl | exact light_lens rfl rfl | rfl) rfl rfl ?_
  refine l_l rfl rfl rfl ?_
  refine l_nil ?_
  refine c_block ?_
  refine c_loop (σ := Nat × Value × Heap) [3, 5, 13, 14, 15, 16, 17, 18, 19, 20, 21, 22] (fun s => [(3, s.2.1), (13, .int .i64 s.1)]) (fun s => s.2.2 ++ []) (fun s => s.1 ≤ ms.length ∧ Vec 23 1 s.2.1 s.1 ((times (ms.take s.1)).map (.int .u64)) s.2.2) (fun s => ms.length - s.1) (0, .slice none 0 0, []) ?_ ?_ ?_ ?_
  · exact ⟨Nat.zero_le _, .nil⟩
  · exact .cons rfl (.cons rfl .nil)
  · exact fun _ h => h
  · rintro ⟨k, v, G⟩ y ⟨hk, hV⟩
    simp only at hk hV ⊢
    refine c_seq ?_
    refine c_region ?_
    refine l_l rfl rfl rfl ?_
    refine l_nil ?_
    refine c_seq ?_
    refine c_cond rfl (fun h1 => ?_) (fun h1 => ?_)
    · refine c_skip ?_
      refine c_seq ?_
      refine c_block ?_
      refine c_seq ?_
      obtain ⟨br, off, rfl, hr⟩ := hE (by (try simp only [decide_eq_true_eq, decide_eq_false_iff_not, beq_iff_eq, beq_eq_false_iff_ne, bne_iff_ne, bne_eq_false_iff_eq, ne_eq] at *); omega)
      refine c_region ?_
      refine l_l (idx_slice k rfl rfl rfl rfl (by (try simp only [decide_eq_true_eq, decide_eq_false_iff_not, beq_iff_eq, beq_eq_false_iff_ne, bne_iff_ne, bne_eq_false_iff_eq, ne_eq] at *); omega)) rfl rfl ?_
      refine l_x (x_loadA rfl rfl rfl (row_old (mark_row hr (by (try simp only [decide_eq_true_eq, decide_eq_false_iff_not, beq_iff_eq, beq_eq_false_iff_ne, bne_iff_ne, bne_eq_false_iff_eq, ne_eq] at *); omega)) (by simp))) rfl rfl ?_
      rintro _ _ ⟨rfl, rfl⟩
      refine l_x (x_alloc rfl) rfl rfl ?_
      rintro _ _ ⟨b5, rfl, rfl⟩
      refine l_x (by first | exact x_store 0 rfl rfl rfl rfl rfl rfl (by first | rfl | exact Nat.le_of_ble_eq_true rfl | (simp; done)) | exact x_store 1 rfl rfl rfl rfl rfl rfl (by first | rfl | exact Nat.le_of_ble_eq_true rfl | (simp; done)) | exact x_store 2 rfl rfl rfl rfl rfl rfl (by first | rfl | exact Nat.le_of_ble_eq_true rfl | (simp; done)) | exact x_store 3 rfl rfl rfl rfl rfl rfl (by first | rfl | exact Nat.le_of_ble_eq_true rfl | (simp; done))) rfl rfl ?_
      rintro _ _ ⟨rfl, rfl⟩
      refine l_nil ?_
      refine c_region ?_
      refine l_mv (v := v) rfl rfl rfl ?_
      refine l_l (light_fa rfl rfl) rfl rfl ?_
      refine l_x (x_load rfl rfl (at_own (by repeat (first | exact .head _ | refine .tail _ ?_ | refine List.mem_append_right _ ?_)) (by rfl))) rfl rfl ?_
      rintro _ _ ⟨rfl, rfl⟩
      refine l_x (x_slc rfl rfl rfl rfl rfl rfl) rfl rfl ?_
      rintro _ _ ⟨b20, rfl, rfl⟩
      refine l_x (x_append (A := [_, _]) (G := G) (R := []) (v := v) (n := k) (m := 1) (by_ := 8) rfl rfl rfl rfl hV (fun w hw => .row _ _ _ _ _ rfl (row_own (by repeat (first | exact .head _ | refine .tail _ ?_ | refine List.mem_append_right _ ?_)) w hw)) rfl (by omega) (by omega)) rfl rfl ?_
      rintro v21 _ ⟨G', hV', hnil, rfl⟩
      refine l_as' (v := v21) rfl rfl rfl ?_
      refine l_nil ?_
      refine c_region ?_
      refine l_l rfl rfl rfl ?_
      refine l_l rfl rfl rfl ?_
      refine l_nil ?_
      exact ⟨(k + 1, v21, G'), ⟨by (try simp only [decide_eq_true_eq, decide_eq_false_iff_not, beq_iff_eq, beq_eq_false_iff_ne, bne_iff_ne, bne_eq_false_iff_eq, ne_eq] at *); omega, by simp only; rw [times_snoc (by (try simp only [decide_eq_true_eq, decide_eq_false_iff_not, beq_iff_eq, beq_eq_false_iff_ne, bne_iff_ne, bne_eq_false_iff_eq, ne_eq] at *); omega)]; exact hV'⟩, by (try simp only [decide_eq_true_eq, decide_eq_false_iff_not, beq_iff_eq, beq_eq_false_iff_ne, bne_iff_ne, bne_eq_false_iff_eq, ne_eq] at *); omega, .cons rfl (.cons (congrArg _ (succ_law (by omega))) .nil), (by repeat (first | exact Agree.refl _ _ | exact Agree.mix rfl | refine Agree.put rfl ?_ | refine Agree.keep rfl ?_)), (fun _ h => h.sub (by first | exact List.Sublist.refl _ | exact (List.Sublist.refl _).append (List.sublist_append_right _ _) | exact List.sublist_append_right _ _ | exact List.sublist_cons_self _ _))⟩
    · refine c_exit rfl ?_
      refine c_seq ?_
      refine c_region ?_
      refine l_mv (v := v) rfl rfl rfl ?_
      refine l_as' (v := v) rfl rfl rfl ?_
      refine l_nil ?_
      refine c_ret ?_
      obtain rfl : k = ms.length := by (try simp only [decide_eq_true_eq, decide_eq_false_iff_not, beq_iff_eq, beq_eq_false_iff_ne, bne_iff_ne, bne_eq_false_iff_eq, ne_eq] at *); omega
      rw [List.take_length] at hV
      exact l_end (fun _ _ => rets_one rfl) (List.sublist_append_left _ _) hV

theorem cost_fn (b : Nat) (cap : Int) (ms : List Mark) (hR : Rise ms) (hlen : ms.length < 1000000000) (x : Int) (hx : 0 ≤ x) (w : World) (hL : LineW w b cap ms) :
    Does Try.prog 18 [.pointer (some ⟨b, 0, none⟩), .int .u64 x] w [] (fun v H => H = [] ∧ v = .tuple #[.int .u64 (costI ms x), .bool (decide (0 ≤ bef ms x))]) := by
  obtain ⟨a, c, q0, qc, q1, hE⟩ := hL
  refine does_of Try.func18 rfl rfl rfl (St.refl w) ?_
  refine c_seq ?_
  refine c_region ?_
  refine l_l rfl rfl rfl ?_
  refine l_l rfl rfl rfl ?_
  refine l_nil ?_
  refine c_seq ?_
  refine c_region ?_
  refine l_l rfl rfl rfl ?_
  refine l_l rfl rfl rfl ?_
  refine l_x (x_val call_23 rfl (fun w hw => before_fn b cap ms hR hlen x w (LineW.later0 ⟨a, c, q0, qc, q1, hE⟩ hw))) rfl rfl ?_
  rintro _ _ ⟨rfl, rfl⟩
  refine l_l rfl rfl rfl ?_
  refine l_nil ?_
  refine c_seq ?_
  refine c_seq ?_
  refine c_region ?_
  refine l_l rfl rfl rfl ?_
  refine l_l rfl rfl rfl ?_
  refine l_nil ?_
  refine c_cond rfl (fun h1 => ?_) (fun h1 => ?_)
  · refine c_seq ?_
    refine c_region ?_
    refine l_l rfl rfl rfl ?_
    refine l_l rfl rfl rfl ?_
    refine l_nil ?_
    refine c_ret ?_
    exact l_end0 (fun _ _ => rets_v2 rfl rfl) ⟨rfl, Cost_none (by (try simp only [decide_eq_true_eq, decide_eq_false_iff_not, beq_iff_eq, beq_eq_false_iff_ne, bne_iff_ne, bne_eq_false_iff_eq, ne_eq] at *); omega)⟩
  · refine c_skip ?_
    refine c_seq ?_
    obtain ⟨hb1, hb2⟩ := bef_lt (ms := ms) (x := x) (by (try simp only [decide_eq_true_eq, decide_eq_false_iff_not, beq_iff_eq, beq_eq_false_iff_ne, bne_iff_ne, bne_eq_false_iff_eq, ne_eq] at *); omega)
    refine c_region ?_
    refine l_l rfl rfl rfl ?_
    refine l_x (x_val call_19 rfl (fun w hw => last_fn b cap ms hlen w (LineW.later0 ⟨a, c, q0, qc, q1, hE⟩ hw))) rfl rfl ?_
    rintro _ _ ⟨rfl, rfl⟩
    refine l_l rfl rfl rfl ?_
    refine l_l rfl rfl rfl ?_
    refine l_l rfl rfl rfl ?_
    refine l_l rfl rfl rfl ?_
    refine l_l rfl rfl rfl ?_
    refine l_nil ?_
    refine c_seq ?_
    obtain ⟨br, off, rfl, hr⟩ := hE (by omega)
    refine c_region ?_
    refine l_l rfl rfl rfl ?_
    refine l_l rfl rfl rfl ?_
    refine l_l (light_min rfl rfl) rfl rfl ?_
    refine l_l rfl rfl rfl ?_
    refine l_l rfl rfl rfl ?_
    refine l_l (light_fa rfl rfl) rfl rfl ?_
    refine l_x (x_load rfl rfl (at_old q0 (by simp))) rfl rfl ?_
    rintro _ _ ⟨rfl, rfl⟩
    refine l_l rfl rfl rfl ?_
    refine l_l (idx_slice (bef ms x).toNat rfl rfl rfl hb2.symm hb1) rfl rfl ?_
    refine l_l (light_fa rfl rfl) rfl rfl ?_
    refine l_x (x_load rfl rfl (at_old (mark_t hr hb1) (by simp))) rfl rfl ?_
    rintro _ _ ⟨rfl, rfl⟩
    refine l_l rfl rfl rfl ?_
    refine l_l rfl rfl rfl ?_
    refine l_l rfl rfl rfl ?_
    refine l_nil ?_
    refine c_ret ?_
    exact l_end0 (fun _ _ => rets_v2 rfl rfl) ⟨rfl, Cost_some hR (by (try simp only [decide_eq_true_eq, decide_eq_false_iff_not, beq_iff_eq, beq_eq_false_iff_ne, bne_iff_ne, bne_eq_false_iff_eq, ne_eq] at *); omega)⟩

end Go.Proofs.Ytkifhldkhemdlaa
