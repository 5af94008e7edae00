/- Names are compared, and searched for. -/
import Derived.Test.YtmafgccagaihbaaNamesB
import Derived.Test.YtmafgccagaihbaaProg
import Derived.Test.YtmafgccagaihbaaCalls
namespace Go.Proofs.Ytmafgccagaihbaa
open Go Go.VV Go.Proofs
set_option linter.unusedSimpArgs false
set_option linter.unusedVariables false
set_option maxRecDepth 100000
theorem nan_i64 (x : Int) (w : World) : Does Try.prog 43 [.int .i64 x] w [] (fun v H => H = [] ∧ v = .bool false) := by
  refine does_of Try.func43 rfl rfl rfl (St.refl w) ?_
  refine c_seq ?_
  refine c_region ?_
  refine l_l rfl rfl rfl ?_
  refine l_nil ?_
  refine c_seq ?_
  refine c_region ?_
  refine l_l rfl rfl rfl ?_
  refine l_l rfl rfl rfl ?_
  refine l_sure false rfl rfl rfl (by simp) ?_
  refine l_l rfl rfl rfl ?_
  refine l_nil ?_
  refine c_ret ?_
  exact l_end0 (fun _ _ => rets_v rfl) ⟨rfl, rfl⟩

theorem cmp_i64 (x y : Int) (w : World) : Does Try.prog 40 [.int .i64 x, .int .i64 y] w [] (fun v H => H = [] ∧ v = .int .i64 (cmpI x y)) := by
  refine does_of Try.func40 rfl rfl rfl (St.refl w) ?_
  refine c_seq ?_
  refine c_region ?_
  refine l_l rfl rfl rfl ?_
  refine l_nil ?_
  refine c_seq ?_
  refine c_region ?_
  refine l_l rfl rfl rfl ?_
  refine l_x (x_val call_43 rfl (fun w hw => nan_i64 _ w)) rfl rfl ?_
  rintro _ _ ⟨rfl, rfl⟩
  refine l_l rfl rfl rfl ?_
  refine l_nil ?_
  refine c_seq ?_
  refine c_region ?_
  refine l_l rfl rfl rfl ?_
  refine l_x (x_val call_43 rfl (fun w hw => nan_i64 _ w)) rfl rfl ?_
  rintro _ _ ⟨rfl, rfl⟩
  refine l_l rfl rfl rfl ?_
  refine l_nil ?_
  refine c_seq ?_
  refine c_seq ?_
  refine c_region ?_
  refine l_l rfl rfl rfl ?_
  refine l_nil ?_
  refine c_false rfl ?_
  refine c_skip ?_
  refine c_seq ?_
  refine c_seq ?_
  refine c_region ?_
  refine l_l rfl rfl rfl ?_
  refine l_nil ?_
  refine c_false rfl ?_
  refine c_skip ?_
  refine c_seq ?_
  refine c_seq ?_
  refine c_region ?_
  refine l_l rfl rfl rfl ?_
  refine l_l rfl rfl rfl ?_
  refine l_l rfl rfl rfl ?_
  refine l_nil ?_
  refine c_cond rfl (fun h1 => ?_) (fun h1 => ?_)
  · refine c_seq ?_
    refine c_region ?_
    refine l_l rfl rfl rfl ?_
    refine l_nil ?_
    refine c_ret ?_
    exact l_end0 (fun _ _ => rets_v rfl) ⟨rfl, congrArg _ (cmp_lt (by (try simp only [decide_eq_true_eq, decide_eq_false_iff_not, beq_iff_eq, beq_eq_false_iff_ne, bne_iff_ne, bne_eq_false_iff_eq, ne_eq] at *); omega)).symm⟩
  · refine c_skip ?_
    refine c_seq ?_
    refine c_seq ?_
    refine c_region ?_
    refine l_l rfl rfl rfl ?_
    refine l_l rfl rfl rfl ?_
    refine l_l rfl rfl rfl ?_
    refine l_nil ?_
    refine c_cond rfl (fun h2 => ?_) (fun h2 => ?_)
    · refine c_seq ?_
      refine c_region ?_
      refine l_l rfl rfl rfl ?_
      refine l_nil ?_
      refine c_ret ?_
      exact l_end0 (fun _ _ => rets_v rfl) ⟨rfl, congrArg _ (cmp_gt (by (try simp only [decide_eq_true_eq, decide_eq_false_iff_not, beq_iff_eq, beq_eq_false_iff_ne, bne_iff_ne, bne_eq_false_iff_eq, ne_eq] at *); omega)).symm⟩
    · refine c_skip ?_
      refine c_seq ?_
      refine c_region ?_
      refine l_l rfl rfl rfl ?_
      refine l_nil ?_
      refine c_ret ?_
      exact l_end0 (fun _ _ => rets_v rfl) ⟨rfl, congrArg _ (cmp_eq (by (try simp only [decide_eq_true_eq, decide_eq_false_iff_not, beq_iff_eq, beq_eq_false_iff_ne, bne_iff_ne, bne_eq_false_iff_eq, ne_eq] at *); omega)).symm⟩

theorem nan_u16 (x : Int) (w : World) : Does Try.prog 44 [.int .u16 x] w [] (fun v H => H = [] ∧ v = .bool false) := by
  refine does_of Try.func44 rfl rfl rfl (St.refl w) ?_
  refine c_seq ?_
  refine c_region ?_
  refine l_l rfl rfl rfl ?_
  refine l_nil ?_
  refine c_seq ?_
  refine c_region ?_
  refine l_l rfl rfl rfl ?_
  refine l_l rfl rfl rfl ?_
  refine l_sure false rfl rfl rfl (by simp) ?_
  refine l_l rfl rfl rfl ?_
  refine l_nil ?_
  refine c_ret ?_
  exact l_end0 (fun _ _ => rets_v rfl) ⟨rfl, rfl⟩

theorem cmp_u16 (x y : Int) (w : World) : Does Try.prog 41 [.int .u16 x, .int .u16 y] w [] (fun v H => H = [] ∧ v = .int .i64 (cmpI x y)) := by
  refine does_of Try.func41 rfl rfl rfl (St.refl w) ?_
  refine c_seq ?_
  refine c_region ?_
  refine l_l rfl rfl rfl ?_
  refine l_nil ?_
  refine c_seq ?_
  refine c_region ?_
  refine l_l rfl rfl rfl ?_
  refine l_x (x_val call_44 rfl (fun w hw => nan_u16 _ w)) rfl rfl ?_
  rintro _ _ ⟨rfl, rfl⟩
  refine l_l rfl rfl rfl ?_
  refine l_nil ?_
  refine c_seq ?_
  refine c_region ?_
  refine l_l rfl rfl rfl ?_
  refine l_x (x_val call_44 rfl (fun w hw => nan_u16 _ w)) rfl rfl ?_
  rintro _ _ ⟨rfl, rfl⟩
  refine l_l rfl rfl rfl ?_
  refine l_nil ?_
  refine c_seq ?_
  refine c_seq ?_
  refine c_region ?_
  refine l_l rfl rfl rfl ?_
  refine l_nil ?_
  refine c_false rfl ?_
  refine c_skip ?_
  refine c_seq ?_
  refine c_seq ?_
  refine c_region ?_
  refine l_l rfl rfl rfl ?_
  refine l_nil ?_
  refine c_false rfl ?_
  refine c_skip ?_
  refine c_seq ?_
  refine c_seq ?_
  refine c_region ?_
  refine l_l rfl rfl rfl ?_
  refine l_l rfl rfl rfl ?_
  refine l_l rfl rfl rfl ?_
  refine l_nil ?_
  refine c_cond rfl (fun h1 => ?_) (fun h1 => ?_)
  · refine c_seq ?_
    refine c_region ?_
    refine l_l rfl rfl rfl ?_
    refine l_nil ?_
    refine c_ret ?_
    exact l_end0 (fun _ _ => rets_v rfl) ⟨rfl, congrArg _ (cmp_lt (by (try simp only [decide_eq_true_eq, decide_eq_false_iff_not, beq_iff_eq, beq_eq_false_iff_ne, bne_iff_ne, bne_eq_false_iff_eq, ne_eq] at *); omega)).symm⟩
  · refine c_skip ?_
    refine c_seq ?_
    refine c_seq ?_
    refine c_region ?_
    refine l_l rfl rfl rfl ?_
    refine l_l rfl rfl rfl ?_
    refine l_l rfl rfl rfl ?_
    refine l_nil ?_
    refine c_cond rfl (fun h2 => ?_) (fun h2 => ?_)
    · refine c_seq ?_
      refine c_region ?_
      refine l_l rfl rfl rfl ?_
      refine l_nil ?_
      refine c_ret ?_
      exact l_end0 (fun _ _ => rets_v rfl) ⟨rfl, congrArg _ (cmp_gt (by (try simp only [decide_eq_true_eq, decide_eq_false_iff_not, beq_iff_eq, beq_eq_false_iff_ne, bne_iff_ne, bne_eq_false_iff_eq, ne_eq] at *); omega)).symm⟩
    · refine c_skip ?_
      refine c_seq ?_
      refine c_region ?_
      refine l_l rfl rfl rfl ?_
      refine l_nil ?_
      refine c_ret ?_
      exact l_end0 (fun _ _ => rets_v rfl) ⟨rfl, congrArg _ (cmp_eq (by (try simp only [decide_eq_true_eq, decide_eq_false_iff_not, beq_iff_eq, beq_eq_false_iff_ne, bne_iff_ne, bne_eq_false_iff_eq, ne_eq] at *); omega)).symm⟩

theorem or_fn (a b : Int) (bq : Nat) (w : World) (hr : Row w bq 0 [.int .i64 a, .int .i64 b]) :
    Does Try.prog 39 [.slice (some ⟨bq, 0, none⟩) 2 2] w [] (fun v H => H = [] ∧ v = .int .i64 (if a ≠ 0 then a else b)) := by
  refine does_of Try.func39 rfl rfl rfl (St.refl w) ?_
  refine c_seq ?_
  refine c_region ?_
  refine l_l rfl rfl rfl ?_
  refine l_nil ?_
  refine c_seq ?_
  refine c_region ?_
  refine l_l rfl rfl rfl ?_
  refine l_nil ?_
  refine c_seq ?_
  refine c_seq ?_
  refine c_region ?_
  refine l_l rfl rfl rfl ?_
  refine l_l (by first | exact light_len rfl rfl | exact light_lens rfl rfl | rfl) rfl rfl ?_
  refine l_l rfl rfl rfl ?_
  refine l_nil ?_
  refine c_block ?_
  refine c_loopk (σ := Nat) [2, 5, 8, 9, 10, 11, 12, 13, 14, 15, 16] (fun k => [(8, .int .i64 k)]) (fun k => k ≤ 2 ∧ (1 ≤ k → a = 0) ∧ (2 ≤ k → b = 0)) (fun k => 2 - k) 0 ?_ ?_ ?_
  · exact ⟨by omega, fun h => by omega, fun h => by omega⟩
  · exact .cons rfl .nil
  · rintro k y3 ⟨hk, ha, hb⟩
    refine c_seq ?_
    refine c_region ?_
    refine l_l rfl rfl rfl ?_
    refine l_nil ?_
    refine c_seq ?_
    refine c_cond rfl (fun h1 => ?_) (fun h1 => ?_)
    · refine c_skip ?_
      refine c_seq ?_
      refine c_block ?_
      refine c_seq ?_
      rcases (show k = 0 ∨ k = 1 by (try simp only [decide_eq_true_eq, decide_eq_false_iff_not, beq_iff_eq, beq_eq_false_iff_ne, bne_iff_ne, bne_eq_false_iff_eq, ne_eq] at *); omega) with rfl | rfl
      · refine c_region ?_
        refine l_l (idx_slice (s := 1) 0 rfl rfl rfl rfl (by decide)) rfl rfl ?_
        refine l_x (x_load rfl rfl (fun w hw => (row_old hr (by simp) w hw) 0 _ rfl)) rfl rfl ?_
        rintro _ _ ⟨rfl, rfl⟩
        refine l_l rfl rfl rfl ?_
        refine l_nil ?_
        refine c_seq ?_
        refine c_region ?_
        refine l_l rfl rfl rfl ?_
        refine l_l rfl rfl rfl ?_
        refine l_l rfl rfl rfl ?_
        refine l_nil ?_
        refine c_cond rfl (fun h2 => ?_) (fun h2 => ?_)
        · refine c_seq ?_
          refine c_region ?_
          refine l_l rfl rfl rfl ?_
          refine l_l rfl rfl rfl ?_
          refine l_nil ?_
          refine c_ret ?_
          exact l_end0 (fun _ _ => rets_v rfl) ⟨rfl, congrArg _ (by rw [if_pos (by (try simp only [decide_eq_true_eq, decide_eq_false_iff_not, beq_iff_eq, beq_eq_false_iff_ne, bne_iff_ne, bne_eq_false_iff_eq, ne_eq] at *); omega)])⟩
        · refine c_skip ?_
          refine c_region ?_
          refine l_as (v := (.int .i64 ((1 : Nat) : Int))) rfl rfl rfl rfl ?_
          refine l_l rfl rfl rfl ?_
          refine l_nil ?_
          exact ⟨1, ⟨by omega, fun _ => by (try simp only [decide_eq_true_eq, decide_eq_false_iff_not, beq_iff_eq, beq_eq_false_iff_ne, bne_iff_ne, bne_eq_false_iff_eq, ne_eq] at *); omega, fun h => by omega⟩, by omega, .cons rfl .nil, (by repeat (first | exact Agree.refl _ _ | exact Agree.mix rfl | refine Agree.put rfl ?_ | refine Agree.keep rfl ?_)), fun _ h => h⟩
      · refine c_region ?_
        refine l_l (idx_slice (s := 1) 1 rfl rfl rfl rfl (by decide)) rfl rfl ?_
        refine l_x (x_load rfl rfl (fun w hw => (row_old hr (by simp) w hw) 1 _ rfl)) rfl rfl ?_
        rintro _ _ ⟨rfl, rfl⟩
        refine l_l rfl rfl rfl ?_
        refine l_nil ?_
        refine c_seq ?_
        refine c_region ?_
        refine l_l rfl rfl rfl ?_
        refine l_l rfl rfl rfl ?_
        refine l_l rfl rfl rfl ?_
        refine l_nil ?_
        refine c_cond rfl (fun h3 => ?_) (fun h3 => ?_)
        · refine c_seq ?_
          refine c_region ?_
          refine l_l rfl rfl rfl ?_
          refine l_l rfl rfl rfl ?_
          refine l_nil ?_
          refine c_ret ?_
          exact l_end0 (fun _ _ => rets_v rfl) ⟨rfl, congrArg _ (by rw [if_neg (by have := ha (by omega); omega)])⟩
        · refine c_skip ?_
          refine c_region ?_
          refine l_as (v := (.int .i64 ((2 : Nat) : Int))) rfl rfl rfl rfl ?_
          refine l_l rfl rfl rfl ?_
          refine l_nil ?_
          exact ⟨2, ⟨by omega, fun _ => by exact ha (by omega), fun h => by (try simp only [decide_eq_true_eq, decide_eq_false_iff_not, beq_iff_eq, beq_eq_false_iff_ne, bne_iff_ne, bne_eq_false_iff_eq, ne_eq] at *); omega⟩, by omega, .cons rfl .nil, (by repeat (first | exact Agree.refl _ _ | exact Agree.mix rfl | refine Agree.put rfl ?_ | refine Agree.keep rfl ?_)), fun _ h => h⟩
    · refine c_exit rfl ?_
      refine c_seq ?_
      refine c_region ?_
      refine l_l rfl rfl rfl ?_
      refine l_l rfl rfl rfl ?_
      refine l_nil ?_
      refine c_ret ?_
      exact l_end0 (fun _ _ => rets_v rfl) ⟨rfl, congrArg _ (by have h1 := ha (by (try simp only [decide_eq_true_eq, decide_eq_false_iff_not, beq_iff_eq, beq_eq_false_iff_ne, bne_iff_ne, bne_eq_false_iff_eq, ne_eq] at *); omega); have h2 := hb (by (try simp only [decide_eq_true_eq, decide_eq_false_iff_not, beq_iff_eq, beq_eq_false_iff_ne, bne_iff_ne, bne_eq_false_iff_eq, ne_eq] at *); omega); rw [if_neg (by omega), h2])⟩

theorem compare_fn (x y : Nm) (hx : AtOk x) (hy : AtOk y) (w : World) :
    Does Try.prog 36 [.agg (cN x).toArray, .agg (cN y).toArray] w [] (fun v H => H = [] ∧ v = .int .i64 (cmpI (key x) (key y))) := by
  rw [← key_cmp hx hy]
  refine does_of Try.func36 rfl rfl rfl (St.refl w) ?_
  refine c_seq ?_
  refine c_region ?_
  refine l_x (x_box rfl rfl) rfl rfl ?_
  rintro _ _ ⟨b2, rfl, rfl⟩
  refine l_x (x_box rfl rfl) rfl rfl ?_
  rintro _ _ ⟨b3, rfl, rfl⟩
  refine l_l rfl rfl rfl ?_
  refine l_nil ?_
  refine c_seq ?_
  refine c_draw _ [2, 3, 4, 5, 6, 7, 8] (.step true 0 (.step true 1 (.step true 2 (.step true 3 (.step true 5 (.step true 6 (.step true 7 (.step true 8 (.step false 4 (.step false 9 (.step false 10 (.step false 11 (.step true 12 .done))))))))))))) rfl (by kernel_rfl) (by kernel_rfl) (fun _ h => h) ?_
  refine d_light rfl (light_fa rfl rfl) rfl rfl rfl ?_
  refine d_load rfl rfl rfl (s_own (by repeat (first | exact .head _ | refine .tail _ ?_ | refine List.mem_append_right _ ?_)) (by rfl)) rfl rfl ?_
  refine d_light rfl (light_fa rfl rfl) rfl rfl rfl ?_
  refine d_load rfl rfl rfl (s_own (by repeat (first | exact .head _ | refine .tail _ ?_ | refine List.mem_append_right _ ?_)) (by rfl)) rfl rfl ?_
  refine d_light rfl (light_fa rfl rfl) rfl rfl rfl ?_
  refine d_load rfl rfl rfl (s_own (by repeat (first | exact .head _ | refine .tail _ ?_ | refine List.mem_append_right _ ?_)) (by rfl)) rfl rfl ?_
  refine d_light rfl (light_fa rfl rfl) rfl rfl rfl ?_
  refine d_load rfl rfl rfl (s_own (by repeat (first | exact .head _ | refine .tail _ ?_ | refine List.mem_append_right _ ?_)) (by rfl)) rfl rfl ?_
  refine d_x rfl (x_val call_40 rfl (fun w hw => cmp_i64 _ _ w)) rfl rfl (by intro _ _ _ hK x hx; obtain ⟨rfl, rfl⟩ := hK; repeat (first | exact hx | exact List.mem_append_left _ hx | refine List.mem_append_right _ ?_ | refine .tail _ ?_)) ?_
  rintro _ _ ⟨rfl, rfl⟩
  refine d_x rfl (x_val call_41 rfl (fun w hw => cmp_u16 _ _ w)) rfl rfl (by intro h; cases h) ?_
  rintro _ _ ⟨rfl, rfl⟩
  refine d_x rfl (x_slc rfl rfl rfl rfl rfl rfl) rfl rfl (by intro h; cases h) ?_
  rintro _ _ ⟨b15, rfl, rfl⟩
  refine d_x rfl (x_val call_39 rfl (fun w hw => or_fn _ _ _ w (row_own (by repeat (first | exact .head _ | refine .tail _ ?_ | refine List.mem_append_right _ ?_)) w hw))) rfl rfl (by intro h; cases h) ?_
  rintro _ _ ⟨rfl, rfl⟩
  refine d_light rfl rfl rfl rfl rfl ?_
  refine d_nil ?_
  refine c_ret ?_
  exact l_end0 (fun _ _ => rets_v rfl) ⟨rfl, rfl⟩

theorem fcmp_fn (x y : Nm) (hx : AtOk x) (hy : AtOk y) (w : World) :
    Does Try.prog 35 [.agg (cN x).toArray, .agg (cN y).toArray] w [] (fun v H => H = [] ∧ v = .int .i64 (cmpI (key x) (key y))) := by
  refine does_of Try.func35 rfl rfl rfl (St.refl w) ?_
  refine c_seq ?_
  refine c_region ?_
  refine l_x (x_box rfl rfl) rfl rfl ?_
  rintro _ _ ⟨b2, rfl, rfl⟩
  refine l_x (x_box rfl rfl) rfl rfl ?_
  rintro _ _ ⟨b3, rfl, rfl⟩
  refine l_l rfl rfl rfl ?_
  refine l_nil ?_
  refine c_seq ?_
  refine c_region ?_
  refine l_x (x_loadA rfl rfl rfl (by first | exact row_own (by repeat (first | exact .head _ | refine .tail _ ?_ | refine List.mem_append_right _ ?_)) | exact row_own_at (by repeat (first | exact .head _ | refine .tail _ ?_ | refine List.mem_append_right _ ?_)) _ 3 rfl)) rfl rfl ?_
  rintro _ _ ⟨rfl, rfl⟩
  refine l_x (x_loadA rfl rfl rfl (by first | exact row_own (by repeat (first | exact .head _ | refine .tail _ ?_ | refine List.mem_append_right _ ?_)) | exact row_own_at (by repeat (first | exact .head _ | refine .tail _ ?_ | refine List.mem_append_right _ ?_)) _ 3 rfl)) rfl rfl ?_
  rintro _ _ ⟨rfl, rfl⟩
  refine l_x (x_val call_36 rfl (fun w hw => compare_fn x y hx hy w)) rfl rfl ?_
  rintro _ _ ⟨rfl, rfl⟩
  refine l_l rfl rfl rfl ?_
  refine l_nil ?_
  refine c_ret ?_
  exact l_end0 (fun _ _ => rets_v rfl) ⟨rfl, rfl⟩

theorem search_fn (a : Option Addr) (c : Nat) (P : List Nm) (hs : Srt P) (hok : ∀ y ∈ P, AtOk y) (hlen : P.length < 1000000) (x : Nm) (hx : AtOk x) (w : World) (hE : Els w cN a P) :
    Does Try.prog 34 [.slice a P.length c, .agg (cN x).toArray, .func (.func 35) #[] #[]] w [] (fun v H => H = [] ∧ v = .tuple #[.int .i64 (cnt P (key x)), .bool (fnd P (key x))]) := by
  refine does_of Try.func34 rfl rfl rfl (St.refl w) ?_
  refine c_seq ?_
  refine c_region ?_
  refine l_x (x_box rfl rfl) rfl rfl ?_
  rintro _ _ ⟨b4, rfl, rfl⟩
  refine l_l rfl rfl rfl ?_
  refine l_l rfl rfl rfl ?_
  refine l_nil ?_
  refine c_seq ?_
  refine c_region ?_
  refine l_l rfl rfl rfl ?_
  refine l_l (by first | exact light_len rfl rfl | exact light_lens rfl rfl | rfl) rfl rfl ?_
  refine l_l rfl rfl rfl ?_
  refine l_nil ?_
  refine c_seq ?_
  refine c_region ?_
  refine l_l rfl rfl rfl ?_
  refine l_l rfl rfl rfl ?_
  refine l_l rfl rfl rfl ?_
  refine l_nil ?_
  refine c_seq ?_
  refine c_block ?_
  refine c_loopk (σ := Nat × Nat) [9, 10, 11, 15, 16, 17, 18, 19, 20, 21, 22, 23, 24, 25, 26, 27, 28, 29, 30, 31, 32, 33, 34] (fun s => [(9, .int .i64 s.1), (10, .int .i64 s.2)]) (fun s => s.1 ≤ cnt P (key x) ∧ cnt P (key x) ≤ s.2 ∧ s.2 ≤ P.length) (fun s => s.2 - s.1) (0, P.length) ?_ ?_ ?_
  · exact ⟨Nat.zero_le _, cnt_le _ _, Nat.le_refl _⟩
  · exact .cons rfl (.cons rfl .nil)
  · rintro ⟨lo, hi⟩ y3 ⟨hlo, hcl, hhi⟩
    simp only at hlo hcl hhi ⊢
    refine c_seq ?_
    refine c_seq ?_
    refine c_region ?_
    refine l_l rfl rfl rfl ?_
    refine l_l rfl rfl rfl ?_
    refine l_l rfl rfl rfl ?_
    refine l_nil ?_
    refine c_cond rfl (fun h1 => ?_) (fun h1 => ?_)
    · refine c_skip ?_
      refine c_block ?_
      refine c_seq ?_
      refine c_region ?_
      refine l_l rfl rfl rfl ?_
      refine l_l rfl rfl rfl ?_
      refine l_l rfl rfl rfl ?_
      refine l_l rfl rfl rfl ?_
      refine l_l (shr_pos rfl rfl (by decide)) rfl rfl ?_
      refine l_as (v := (.int .i64 (((lo + hi) / 2 : Nat) : Int))) rfl rfl rfl (congrArg _ (mid_law (by (try simp only [decide_eq_true_eq, decide_eq_false_iff_not, beq_iff_eq, beq_eq_false_iff_ne, bne_iff_ne, bne_eq_false_iff_eq, ne_eq] at *); omega) (by (try simp only [decide_eq_true_eq, decide_eq_false_iff_not, beq_iff_eq, beq_eq_false_iff_ne, bne_iff_ne, bne_eq_false_iff_eq, ne_eq] at *); omega))) ?_
      refine l_l rfl rfl rfl ?_
      refine l_nil ?_
      refine c_seq ?_
      obtain ⟨br, off, rfl, hr⟩ := hE (by (try simp only [decide_eq_true_eq, decide_eq_false_iff_not, beq_iff_eq, beq_eq_false_iff_ne, bne_iff_ne, bne_eq_false_iff_eq, ne_eq] at *); omega)
      obtain ⟨y, hy⟩ : ∃ y, P[(lo + hi) / 2]? = some y := ⟨_, get_some (by (try simp only [decide_eq_true_eq, decide_eq_false_iff_not, beq_iff_eq, beq_eq_false_iff_ne, bne_iff_ne, bne_eq_false_iff_eq, ne_eq] at *); omega)⟩
      have hyo := hok y (List.mem_of_getElem? hy)
      refine c_draw _ [5] (.step true 0 (.step true 1 (.step true 2 (.step true 3 (.step true 4 (.step true 5 (.step false 6 (.step true 7 .done)))))))) rfl (by kernel_rfl) (by kernel_rfl) (fun _ h => h) ?_
      refine d_light rfl rfl rfl rfl rfl ?_
      refine d_light rfl rfl rfl rfl rfl ?_
      refine d_light rfl rfl rfl rfl rfl ?_
      refine d_light rfl (idx_slice (s := 3) ((lo + hi) / 2) rfl rfl rfl rfl (by (try simp only [decide_eq_true_eq, decide_eq_false_iff_not, beq_iff_eq, beq_eq_false_iff_ne, bne_iff_ne, bne_eq_false_iff_eq, ne_eq] at *); omega)) rfl rfl rfl ?_
      refine d_loadA rfl rfl rfl rfl (srow_old (hr.nth' cN_len hy) (by simp)) rfl rfl ?_
      refine d_loadA rfl rfl rfl rfl (by first | exact srow_own (by repeat (first | exact .head _ | refine .tail _ ?_ | refine List.mem_append_right _ ?_)) | exact srow_own_at (by repeat (first | exact .head _ | refine .tail _ ?_ | refine List.mem_append_right _ ?_)) _ 3 rfl) rfl rfl ?_
      refine d_x rfl (x_valV (A := []) (B := []) rfl call_35 rfl (fun w hw => fcmp_fn _ x hyo hx w)) rfl rfl (by intro h; cases h) ?_
      rintro _ _ ⟨rfl, rfl⟩
      refine d_light rfl rfl rfl rfl rfl ?_
      refine d_nil ?_
      refine c_cond rfl (fun h2 => ?_) (fun h2 => ?_)
      · refine c_region ?_
        refine l_l rfl rfl rfl ?_
        refine l_l rfl rfl rfl ?_
        refine l_l rfl rfl rfl ?_
        refine l_nil ?_
        exact ⟨((lo + hi) / 2 + 1, hi), ⟨srch_lt hs hy h2, hcl, hhi⟩, by (try simp only [decide_eq_true_eq, decide_eq_false_iff_not, beq_iff_eq, beq_eq_false_iff_ne, bne_iff_ne, bne_eq_false_iff_eq, ne_eq] at *); omega, .cons (congrArg _ (succ_law (by omega))) (.cons rfl .nil), (by repeat (first | exact Agree.refl _ _ | exact Agree.mix rfl | refine Agree.put rfl ?_ | refine Agree.keep rfl ?_)), fun _ h => h⟩
      · refine c_region ?_
        refine l_l rfl rfl rfl ?_
        refine l_l rfl rfl rfl ?_
        refine l_nil ?_
        exact ⟨(lo, (lo + hi) / 2), ⟨hlo, srch_ge hs hy h2, by (try simp only [decide_eq_true_eq, decide_eq_false_iff_not, beq_iff_eq, beq_eq_false_iff_ne, bne_iff_ne, bne_eq_false_iff_eq, ne_eq] at *); omega⟩, by (try simp only [decide_eq_true_eq, decide_eq_false_iff_not, beq_iff_eq, beq_eq_false_iff_ne, bne_iff_ne, bne_eq_false_iff_eq, ne_eq] at *); omega, .cons rfl (.cons rfl .nil), (by repeat (first | exact Agree.refl _ _ | exact Agree.mix rfl | refine Agree.put rfl ?_ | refine Agree.keep rfl ?_)), fun _ h => h⟩
    · refine c_exit rfl ?_
      refine c_seq ?_
      obtain rfl : lo = cnt P (key x) := by (try simp only [decide_eq_true_eq, decide_eq_false_iff_not, beq_iff_eq, beq_eq_false_iff_ne, bne_iff_ne, bne_eq_false_iff_eq, ne_eq] at *); omega
      refine c_draw _ [] (.step true 0 (.step true 1 (.step true 2 (.step true 3 (.step true 4 (.step true 5 (.step true 6 (.step true 7 (.step true 8 (.fork 9 (.step false 10 (.step false 11 (.step true 12 (.step true 13 (.step true 14 (.step true 15 .done)))))) (.fork 10 (.step false 9 (.step false 11 (.step true 12 (.step true 13 (.step true 14 (.step true 15 .done)))))) .stop))))))))))) rfl (by kernel_rfl) (by kernel_rfl) (fun _ h => h) ?_
      refine d_light rfl rfl rfl rfl rfl ?_
      refine d_light rfl rfl rfl rfl rfl ?_
      refine d_light rfl rfl rfl rfl rfl ?_
      refine d_light rfl rfl rfl rfl rfl ?_
      refine d_bool rfl rfl rfl rfl (fun h3 => ?_) (fun h3 => ?_)
      · refine d_light rfl rfl rfl rfl rfl ?_
        refine d_light rfl rfl rfl rfl rfl ?_
        refine d_light rfl rfl rfl rfl rfl ?_
        obtain ⟨br, off, rfl, hr⟩ := hE (by (try simp only [decide_eq_true_eq, decide_eq_false_iff_not, beq_iff_eq, beq_eq_false_iff_ne, bne_iff_ne, bne_eq_false_iff_eq, ne_eq] at *); omega)
        obtain ⟨y, hy⟩ : ∃ y, P[cnt P (key x)]? = some y := ⟨_, get_some (by (try simp only [decide_eq_true_eq, decide_eq_false_iff_not, beq_iff_eq, beq_eq_false_iff_ne, bne_iff_ne, bne_eq_false_iff_eq, ne_eq] at *); omega)⟩
        have hyo := hok y (List.mem_of_getElem? hy)
        refine d_light rfl (idx_slice (s := 3) (cnt P (key x)) rfl rfl rfl rfl (by (try simp only [decide_eq_true_eq, decide_eq_false_iff_not, beq_iff_eq, beq_eq_false_iff_ne, bne_iff_ne, bne_eq_false_iff_eq, ne_eq] at *); omega)) rfl rfl rfl ?_
        refine d_fork ?_ ?_
        · refine d_x rfl (x_loadA rfl rfl rfl (row_old (hr.nth' cN_len hy) (by simp))) rfl rfl (by intro h; cases h) ?_
          rintro _ _ ⟨rfl, rfl⟩
          refine d_x rfl (x_loadA rfl rfl rfl (row_own (by repeat (first | exact .head _ | refine .tail _ ?_ | refine List.mem_append_right _ ?_)))) rfl rfl (by intro h; cases h) ?_
          rintro _ _ ⟨rfl, rfl⟩
          refine d_x rfl (x_valV (A := []) (B := []) rfl call_35 rfl (fun w hw => fcmp_fn _ x hyo hx w)) rfl rfl (by intro h; cases h) ?_
          rintro _ _ ⟨rfl, rfl⟩
          refine d_light rfl rfl rfl rfl rfl ?_
          refine d_light rfl rfl rfl rfl rfl ?_
          refine d_light rfl rfl rfl rfl rfl ?_
          refine d_light rfl rfl rfl rfl rfl ?_
          refine d_nil ?_
          refine c_ret ?_
          exact l_end0 (fun _ _ => rets_v2 rfl rfl) ⟨rfl, by rw [← srch_hit hy]⟩
        refine d_fork ?_ ?_
        · refine d_x rfl (x_loadA rfl rfl rfl (row_own (by repeat (first | exact .head _ | refine .tail _ ?_ | refine List.mem_append_right _ ?_)))) rfl rfl (by intro h; cases h) ?_
          rintro _ _ ⟨rfl, rfl⟩
          refine d_x rfl (x_loadA rfl rfl rfl (row_old (hr.nth' cN_len hy) (by simp))) rfl rfl (by intro h; cases h) ?_
          rintro _ _ ⟨rfl, rfl⟩
          refine d_x rfl (x_valV (A := []) (B := []) rfl call_35 rfl (fun w hw => fcmp_fn _ x hyo hx w)) rfl rfl (by intro h; cases h) ?_
          rintro _ _ ⟨rfl, rfl⟩
          refine d_light rfl rfl rfl rfl rfl ?_
          refine d_light rfl rfl rfl rfl rfl ?_
          refine d_light rfl rfl rfl rfl rfl ?_
          refine d_light rfl rfl rfl rfl rfl ?_
          refine d_nil ?_
          refine c_ret ?_
          exact l_end0 (fun _ _ => rets_v2 rfl rfl) ⟨rfl, by rw [← srch_hit hy]⟩
        exact d_stop
      · refine d_pass rfl rfl rfl ?_
        refine d_pass rfl rfl rfl ?_
        refine d_pass rfl rfl rfl ?_
        refine d_pass rfl rfl rfl ?_
        refine d_fork ?_ ?_
        · refine d_passH rfl rfl rfl ?_
          refine d_passH rfl rfl rfl ?_
          refine d_passH rfl rfl rfl ?_
          refine d_pass rfl rfl rfl ?_
          refine d_light rfl rfl rfl rfl rfl ?_
          refine d_light rfl rfl rfl rfl rfl ?_
          refine d_light rfl rfl rfl rfl rfl ?_
          refine d_nil ?_
          refine c_ret ?_
          exact l_end0 (fun _ _ => rets_v2 rfl rfl) ⟨rfl, by rw [fnd_no (by (try simp only [decide_eq_true_eq, decide_eq_false_iff_not, beq_iff_eq, beq_eq_false_iff_ne, bne_iff_ne, bne_eq_false_iff_eq, ne_eq] at *); omega)]⟩
        refine d_fork ?_ ?_
        · refine d_passH rfl rfl rfl ?_
          refine d_passH rfl rfl rfl ?_
          refine d_passH rfl rfl rfl ?_
          refine d_pass rfl rfl rfl ?_
          refine d_light rfl rfl rfl rfl rfl ?_
          refine d_light rfl rfl rfl rfl rfl ?_
          refine d_light rfl rfl rfl rfl rfl ?_
          refine d_nil ?_
          refine c_ret ?_
          exact l_end0 (fun _ _ => rets_v2 rfl rfl) ⟨rfl, by rw [fnd_no (by (try simp only [decide_eq_true_eq, decide_eq_false_iff_not, beq_iff_eq, beq_eq_false_iff_ne, bne_iff_ne, bne_eq_false_iff_eq, ne_eq] at *); omega)]⟩
        exact d_stop

end Go.Proofs.Ytmafgccagaihbaa
