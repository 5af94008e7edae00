/- The contracts of the document's unit. -/
import Derived.Test.YtjceoaomkbabmaaMcF
import Derived.Test.YtjceoaomkbabmaaMcL
import Derived.Test.YtjceoaomkbabmaaMcN
namespace Go.Proofs.Ytjceoaomkbabmaa
open Go Go.VV Go.Proofs
set_option linter.unusedSimpArgs false
set_option linter.unusedVariables false
set_option maxRecDepth 100000
theorem new_rep8192 : repL (8192 * 1) [.int .u8 0] = zeroU.V.map (.int .u8) := by
  rw [Nat.mul_one, repL_one]; unfold zeroU; dsimp only; rw [List.map_replicate]
theorem new_rep160 : repL (160 * 1) [.int .u8 0] = zeroU.O.map (.int .u8) := by
  rw [Nat.mul_one, repL_one]; unfold zeroU; dsimp only; rw [List.map_replicate]

theorem rnew_fn (w : World) : Does Try.prog 21 [] w [] (fun v H => ∃ b bv bs, v = .pointer (some ⟨b, 0, none⟩) ∧ H = RH b bv bs zeroU) := by
  refine does_of Try.func21 rfl rfl rfl (St.refl w) ?_
  refine c_seq ?_
  refine c_region ?_
  refine l_l rfl rfl rfl ?_
  refine l_nil ?_
  refine c_seq ?_
  refine c_draw _ [] (.fork 0 (.step false 1 (.step true 2 (.step false 3 (.step true 4 .done)))) (.fork 1 (.step false 0 (.step true 2 (.step false 3 (.step true 4 .done)))) .stop)) rfl (by kernel_rfl) (by kernel_rfl) (fun _ h => h) ?_
  refine d_fork ?_ ?_
  · refine d_x rfl (x_make (k1 := .i64) (k2 := .i64) (el := 5) (n := 8192) (c := 8192) (a := 8192) (b := 8192) (s := 1) (z := [.int .u8 0]) ?_ ?_ ?_ ?_ ?_ ?_ ?_ ?_ ?_) ?_ ?_ ?_ ?_
    iterate 4 rfl
    · exact Nat.le_refl _
    iterate 6 rfl
    · intro h; cases h
    rintro _ _ ⟨b1, rfl, rfl⟩
    refine d_x rfl (x_make (k1 := .i64) (k2 := .i64) (el := 5) (n := 160) (c := 160) (a := 160) (b := 160) (s := 1) (z := [.int .u8 0]) ?_ ?_ ?_ ?_ ?_ ?_ ?_ ?_ ?_) ?_ ?_ ?_ ?_
    iterate 4 rfl
    · exact Nat.le_refl _
    iterate 6 rfl
    · intro h; cases h
    rintro _ _ ⟨b2, rfl, rfl⟩
    refine d_light rfl (light_struct (l := cW b1 b2 zeroU) (z := [.slice none 0 0, .slice none 0 0] ++ (cW 0 0 zeroU).drop 2) (ps := [(0, .slice (some ⟨b1, 0, none⟩) 8192 8192), (1, .slice (some ⟨b2, 0, none⟩) 160 160)]) rfl (by kernel_rfl) rfl (by kernel_rfl)) rfl rfl rfl ?_
    refine d_x rfl (x_box (l := cW b1 b2 zeroU) rfl rfl) rfl rfl (by intro h; cases h) ?_
    rintro _ _ ⟨b4, rfl, rfl⟩
    refine d_light rfl rfl rfl rfl rfl ?_
    refine d_nil ?_
    refine c_ret ?_
    exact ends_of (fun _ _ => rets_v rfl) (fun _ h => St.fl [[_], [_], [_]] [0, 2, 1] rfl h) ⟨b4, b1, b2, rfl, by rw [new_rep8192, new_rep160] <;> rfl⟩
  refine d_fork ?_ ?_
  · refine d_x rfl (x_make (k1 := .i64) (k2 := .i64) (el := 5) (n := 160) (c := 160) (a := 160) (b := 160) (s := 1) (z := [.int .u8 0]) ?_ ?_ ?_ ?_ ?_ ?_ ?_ ?_ ?_) ?_ ?_ ?_ ?_
    iterate 4 rfl
    · exact Nat.le_refl _
    iterate 6 rfl
    · intro h; cases h
    rintro _ _ ⟨b2, rfl, rfl⟩
    refine d_x rfl (x_make (k1 := .i64) (k2 := .i64) (el := 5) (n := 8192) (c := 8192) (a := 8192) (b := 8192) (s := 1) (z := [.int .u8 0]) ?_ ?_ ?_ ?_ ?_ ?_ ?_ ?_ ?_) ?_ ?_ ?_ ?_
    iterate 4 rfl
    · exact Nat.le_refl _
    iterate 6 rfl
    · intro h; cases h
    rintro _ _ ⟨b1, rfl, rfl⟩
    refine d_light rfl (light_struct (l := cW b1 b2 zeroU) (z := [.slice none 0 0, .slice none 0 0] ++ (cW 0 0 zeroU).drop 2) (ps := [(0, .slice (some ⟨b1, 0, none⟩) 8192 8192), (1, .slice (some ⟨b2, 0, none⟩) 160 160)]) rfl (by kernel_rfl) rfl (by kernel_rfl)) rfl rfl rfl ?_
    refine d_x rfl (x_box (l := cW b1 b2 zeroU) rfl rfl) rfl rfl (by intro h; cases h) ?_
    rintro _ _ ⟨b4, rfl, rfl⟩
    refine d_light rfl rfl rfl rfl rfl ?_
    refine d_nil ?_
    refine c_ret ?_
    exact ends_of (fun _ _ => rets_v rfl) (fun _ h => h) ⟨b4, b1, b2, rfl, by rw [new_rep8192, new_rep160] <;> rfl⟩
  exact d_stop

theorem on_fn (b bv bs : Nat) (u : PU) (hu : u.Wf) (w : World) (hr : RRow w b bv bs u) : Does Try.prog 48 [.pointer (some ⟨b, 0, none⟩)] w [] (fun v H => H = [] ∧ v = .bool (litU u)) := by
  refine does_of Try.func48 rfl rfl rfl (St.refl w) ?_
  refine c_seq ?_
  refine c_region ?_
  refine l_l rfl rfl rfl ?_
  refine l_nil ?_
  refine c_seq ?_
  refine c_region ?_
  refine l_l rfl rfl rfl ?_
  refine l_l rfl rfl rfl ?_
  refine l_l (light_fa rfl rfl) rfl rfl ?_
  refine l_l (by first | exact idx_array1 0 rfl rfl rfl rfl (by decide) | exact idx_slice1 0 rfl rfl rfl rfl (by decide) | exact idx_array 0 rfl rfl rfl rfl (by decide) | exact idx_slice 0 rfl rfl rfl rfl (by decide)) rfl rfl ?_
  refine l_x (x_load rfl rfl (at_old (get0 hr.r (cW_R hu (j := 0) (by decide))) (by simp))) rfl rfl ?_
  rintro _ _ ⟨rfl, rfl⟩
  refine l_l rfl rfl rfl ?_
  refine l_l rfl rfl rfl ?_
  refine l_nil ?_
  refine c_ret ?_
  exact l_end0 (fun _ _ => rets_v rfl) ⟨rfl, rfl⟩

theorem rmode_fn (b bv bs : Nat) (u : PU) (hu : u.Wf) (w : World) (hr : RRow w b bv bs u) : Does Try.prog 37 [.pointer (some ⟨b, 0, none⟩)] w [] (fun v H => H = [] ∧ v = .int .i64 (modeU u)) := by
  refine does_of Try.func37 rfl rfl rfl (St.refl w) ?_
  refine c_seq ?_
  refine c_region ?_
  refine l_l rfl rfl rfl ?_
  refine l_nil ?_
  refine c_seq ?_
  refine c_seq ?_
  refine c_region ?_
  refine l_l rfl rfl rfl ?_
  refine l_x (x_val call_48 rfl (fun w hw => on_fn b bv bs u hu w (hr.later hw))) rfl rfl ?_
  rintro _ _ ⟨rfl, rfl⟩
  refine l_l rfl rfl rfl ?_
  refine l_nil ?_
  refine c_cond rfl (fun h1 => ?_) (fun h1 => ?_)
  · have h1n := by first | exact of_decide_eq_true h1 | exact of_decide_eq_false h1 | exact eq_of_beq h1 | exact ne_of_beq_false h1 | exact bne_t h1 | exact bne_f h1 | exact h1
    refine c_seq ?_
    refine c_region ?_
    refine l_l rfl rfl rfl ?_
    refine l_nil ?_
    refine c_ret ?_
    exact l_end0 (fun _ _ => rets_v rfl) ⟨rfl, congrArg _ (by unfold modeU; simp_all <;> omega)⟩
  · have h1n := by first | exact of_decide_eq_true h1 | exact of_decide_eq_false h1 | exact eq_of_beq h1 | exact ne_of_beq_false h1 | exact bne_t h1 | exact bne_f h1 | exact h1
    refine c_skip ?_
    refine c_seq ?_
    refine c_seq ?_
    refine c_region ?_
    refine l_l rfl rfl rfl ?_
    refine l_l rfl rfl rfl ?_
    refine l_l (light_fa rfl rfl) rfl rfl ?_
    refine l_x (x_load rfl rfl (at_old (get0 hr.r (cW_line hu)) (by simp))) rfl rfl ?_
    rintro _ _ ⟨rfl, rfl⟩
    refine l_l rfl rfl rfl ?_
    refine l_nil ?_
    refine c_cond rfl (fun h2 => ?_) (fun h2 => ?_)
    · have h2n := by first | exact of_decide_eq_true h2 | exact of_decide_eq_false h2 | exact eq_of_beq h2 | exact ne_of_beq_false h2 | exact bne_t h2 | exact bne_f h2 | exact h2
      refine c_seq ?_
      refine c_region ?_
      refine l_l rfl rfl rfl ?_
      refine l_nil ?_
      refine c_ret ?_
      exact l_end0 (fun _ _ => rets_v rfl) ⟨rfl, congrArg _ (by unfold modeU; simp_all <;> omega)⟩
    · have h2n := by first | exact of_decide_eq_true h2 | exact of_decide_eq_false h2 | exact eq_of_beq h2 | exact ne_of_beq_false h2 | exact bne_t h2 | exact bne_f h2 | exact h2
      refine c_skip ?_
      refine c_seq ?_
      refine c_seq ?_
      refine c_region ?_
      refine l_l rfl rfl rfl ?_
      refine l_l rfl rfl rfl ?_
      refine l_l (light_fa rfl rfl) rfl rfl ?_
      refine l_x (x_load rfl rfl (at_old (get0 hr.r (cW_dot hu)) (by simp))) rfl rfl ?_
      rintro _ _ ⟨rfl, rfl⟩
      refine l_l rfl rfl rfl ?_
      refine l_nil ?_
      refine c_cond rfl (fun h3 => ?_) (fun h3 => ?_)
      · have h3n := by first | exact of_decide_eq_true h3 | exact of_decide_eq_false h3 | exact eq_of_beq h3 | exact ne_of_beq_false h3 | exact bne_t h3 | exact bne_f h3 | exact h3
        refine c_seq ?_
        refine c_region ?_
        refine l_l rfl rfl rfl ?_
        refine l_nil ?_
        refine c_ret ?_
        exact l_end0 (fun _ _ => rets_v rfl) ⟨rfl, congrArg _ (by unfold modeU; simp_all <;> omega)⟩
      · have h3n := by first | exact of_decide_eq_true h3 | exact of_decide_eq_false h3 | exact eq_of_beq h3 | exact ne_of_beq_false h3 | exact bne_t h3 | exact bne_f h3 | exact h3
        refine c_skip ?_
        refine c_seq ?_
        refine c_seq ?_
        refine c_region ?_
        refine l_l rfl rfl rfl ?_
        refine l_l rfl rfl rfl ?_
        refine l_l (light_fa rfl rfl) rfl rfl ?_
        refine l_x (x_load rfl rfl (at_old (get0 hr.r (cW_dot hu)) (by simp))) rfl rfl ?_
        rintro _ _ ⟨rfl, rfl⟩
        refine l_l rfl rfl rfl ?_
        refine l_nil ?_
        refine c_cond rfl (fun h4 => ?_) (fun h4 => ?_)
        · have h4n := by first | exact of_decide_eq_true h4 | exact of_decide_eq_false h4 | exact eq_of_beq h4 | exact ne_of_beq_false h4 | exact bne_t h4 | exact bne_f h4 | exact h4
          refine c_seq ?_
          refine c_region ?_
          refine l_l rfl rfl rfl ?_
          refine l_nil ?_
          refine c_ret ?_
          exact l_end0 (fun _ _ => rets_v rfl) ⟨rfl, congrArg _ (by unfold modeU; simp_all <;> omega)⟩
        · have h4n := by first | exact of_decide_eq_true h4 | exact of_decide_eq_false h4 | exact eq_of_beq h4 | exact ne_of_beq_false h4 | exact bne_t h4 | exact bne_f h4 | exact h4
          refine c_skip ?_
          refine c_seq ?_
          refine c_region ?_
          refine l_l rfl rfl rfl ?_
          refine l_nil ?_
          refine c_ret ?_
          exact l_end0 (fun _ _ => rets_v rfl) ⟨rfl, congrArg _ (by unfold modeU; simp_all <;> omega)⟩

set_option maxHeartbeats 4000000 in
theorem stat_fn (b bv bs : Nat) (u : PU) (hu : u.Wf) (w : World) (hst : St w [b, bv, bs] (RH b bv bs u) w) : Does Try.prog 52 [.pointer (some ⟨b, 0, none⟩)] w [b, bv, bs] (fun v H => v = .int .u8 (askV u) ∧ H = RH b bv bs (askU u)) := by
  have hmr := mode_range u
  have h5 : 0 ≤ u.R.getD 5 0 ∧ u.R.getD 5 0 < 256 := hu.look 5
  refine does_of Try.func52 rfl rfl rfl hst ?_
  refine c_seq ?_
  refine c_region ?_
  refine l_l rfl rfl rfl ?_
  refine l_nil ?_
  refine c_seq ?_
  refine c_region ?_
  refine l_l rfl rfl rfl ?_
  refine l_x (x_val call_37 rfl (fun w hw => rmode_fn b bv bs u hu w (RRow.of hw (by repeat (first | exact .head _ | refine .tail _ ?_ | refine List.mem_append_right _ ?_)) (by repeat (first | exact .head _ | refine .tail _ ?_ | refine List.mem_append_right _ ?_)) (by repeat (first | exact .head _ | refine .tail _ ?_ | refine List.mem_append_right _ ?_))))) rfl rfl ?_
  rintro _ _ ⟨rfl, rfl⟩
  refine l_l rfl rfl rfl ?_
  refine l_nil ?_
  refine c_seq ?_
  refine c_region ?_
  refine l_l rfl rfl rfl ?_
  refine l_l rfl rfl rfl ?_
  refine l_l (light_fa rfl rfl) rfl rfl ?_
  refine l_l (by first | exact idx_array1 1 rfl rfl rfl rfl (by decide) | exact idx_slice1 1 rfl rfl rfl rfl (by decide) | exact idx_array 1 rfl rfl rfl rfl (by decide) | exact idx_slice 1 rfl rfl rfl rfl (by decide)) rfl rfl ?_
  refine l_x (x_load rfl rfl (at_own (by repeat (first | exact .head _ | refine .tail _ ?_ | refine List.mem_append_right _ ?_)) (cW_R hu (j := 1) (by decide)))) rfl rfl ?_
  rintro _ _ ⟨rfl, rfl⟩
  refine l_l rfl rfl rfl ?_
  refine l_nil ?_
  refine c_seq ?_
  refine c_draw _ [1, 8, 9, 10, 11, 12, 13] (.step true 0 (.step false 1 (.step true 2 (.step true 3 (.step true 4 (.step true 5 (.step true 6 (.step true 7 (.step true 8 (.step true 9 (.step true 10 (.step true 11 (.step true 12 (.step true 13 (.step true 14 (.step true 15 (.step true 16 (.step true 17 (.step false 18 (.step true 19 (.step true 20 (.step true 21 (.step true 22 (.step true 23 (.step true 24 (.step true 25 (.step true 26 (.step false 27 (.step true 28 (.step true 29 (.step true 30 (.step true 31 (.step true 32 (.step true 33 (.step true 34 (.step true 35 (.step false 36 (.step true 37 (.step true 38 (.step true 39 (.step true 40 (.step true 41 (.step true 42 (.step true 43 .done)))))))))))))))))))))))))))))))))))))))))))) rfl (by kernel_rfl) (by kernel_rfl) (fun _ h => h) ?_
  refine d_light rfl rfl rfl rfl rfl ?_
  refine d_x rfl (x_val call_67 rfl (fun w hw => bit_fn _ _ (hu.look 1) ⟨by decide, by decide⟩ w)) rfl rfl (by intro _ _ _ hK x hx; obtain ⟨rfl, rfl⟩ := hK; repeat (first | exact hx | exact List.mem_append_left _ hx | refine List.mem_append_right _ ?_ | refine .tail _ ?_)) ?_
  rintro _ _ ⟨rfl, rfl⟩
  refine d_light rfl rfl rfl rfl rfl ?_
  refine d_bool rfl rfl rfl rfl (fun h1 => ?_) (fun h1 => ?_)
  · refine d_light rfl rfl rfl rfl rfl ?_
    refine d_light rfl rfl rfl rfl rfl ?_
    refine d_light rfl (light_fa rfl rfl) rfl rfl rfl ?_
    refine d_load rfl rfl rfl (s_own (by repeat (first | exact .head _ | refine .tail _ ?_ | refine List.mem_append_right _ ?_)) (cW_line hu)) rfl rfl ?_
    refine d_light rfl rfl rfl rfl rfl ?_
    refine d_light rfl rfl rfl rfl rfl ?_
    refine d_light rfl (light_fa rfl rfl) rfl rfl rfl ?_
    refine d_light rfl (by first | exact idx_array1 5 rfl rfl rfl rfl (by decide) | exact idx_slice1 5 rfl rfl rfl rfl (by decide) | exact idx_array 5 rfl rfl rfl rfl (by decide) | exact idx_slice 5 rfl rfl rfl rfl (by decide)) rfl rfl rfl ?_
    refine d_load rfl rfl rfl (s_own (by repeat (first | exact .head _ | refine .tail _ ?_ | refine List.mem_append_right _ ?_)) (cW_R hu (j := 5) (by decide))) rfl rfl ?_
    refine d_as (v := (.int .i64 (u.R.getD 5 0))) rfl rfl rfl rfl rfl (congrArg _ (wrap_i64 (by omega) (by omega))) ?_
    refine d_light rfl rfl rfl rfl rfl ?_
    refine d_light rfl rfl rfl rfl rfl ?_
    refine d_bool rfl rfl rfl rfl (fun h2 => ?_) (fun h2 => ?_)
    · refine d_pass rfl rfl rfl ?_
      refine d_passH rfl rfl rfl ?_
      refine d_pass rfl rfl rfl ?_
      refine d_pass rfl rfl rfl ?_
      refine d_pass rfl rfl rfl ?_
      refine d_pass rfl rfl rfl ?_
      refine d_pass rfl rfl rfl ?_
      refine d_light rfl rfl rfl rfl rfl ?_
      refine d_light rfl rfl rfl rfl rfl ?_
      refine d_pass rfl rfl rfl ?_
      refine d_passH rfl rfl rfl ?_
      refine d_pass rfl rfl rfl ?_
      refine d_pass rfl rfl rfl ?_
      refine d_pass rfl rfl rfl ?_
      refine d_pass rfl rfl rfl ?_
      refine d_pass rfl rfl rfl ?_
      refine d_light rfl rfl rfl rfl rfl ?_
      refine d_light rfl rfl rfl rfl rfl ?_
      refine d_pass rfl rfl rfl ?_
      refine d_passH rfl rfl rfl ?_
      refine d_pass rfl rfl rfl ?_
      refine d_pass rfl rfl rfl ?_
      refine d_pass rfl rfl rfl ?_
      refine d_pass rfl rfl rfl ?_
      refine d_pass rfl rfl rfl ?_
      refine d_light rfl rfl rfl rfl rfl ?_
      refine d_light rfl rfl rfl rfl rfl ?_
      refine d_nil ?_
      refine c_seq ?_
      refine c_region ?_
      refine l_l rfl rfl rfl ?_
      refine l_l rfl rfl rfl ?_
      refine l_l rfl rfl rfl ?_
      refine l_x (x_val call_48 rfl (fun w hw => on_fn b bv bs u hu w (RRow.of hw (by repeat (first | exact .head _ | refine .tail _ ?_ | refine List.mem_append_right _ ?_)) (by repeat (first | exact .head _ | refine .tail _ ?_ | refine List.mem_append_right _ ?_)) (by repeat (first | exact .head _ | refine .tail _ ?_ | refine List.mem_append_right _ ?_))))) rfl rfl ?_
      rintro _ _ ⟨rfl, rfl⟩
      refine l_l rfl rfl rfl ?_
      refine l_l rfl rfl rfl ?_
      refine l_nil ?_
      refine c_seq ?_
      refine c_region ?_
      refine l_l rfl rfl rfl ?_
      refine l_l rfl rfl rfl ?_
      refine l_l (light_fa rfl rfl) rfl rfl ?_
      refine l_x (x_load rfl rfl (at_own (by repeat (first | exact .head _ | refine .tail _ ?_ | refine List.mem_append_right _ ?_)) (cW_sig hu))) rfl rfl ?_
      rintro _ _ ⟨rfl, rfl⟩
      refine l_l rfl rfl rfl ?_
      refine l_nil ?_
      refine c_seq ?_
      refine c_region ?_
      refine l_l rfl rfl rfl ?_
      refine l_l rfl rfl rfl ?_
      refine l_l rfl rfl rfl ?_
      refine l_l (light_fa rfl rfl) rfl rfl ?_
      refine l_x (x_storeTo (l' := cW bv bs (askU u)) 0 rfl rfl rfl rfl rfl rfl (by rw [cW_len hu]; simp only [List.length_cons, List.length_nil]; omega) (by have h9 : litU u = sigU u := sig_yes hu (by unfold anyU; simp_all); rw [h9]; exact putW_sig hu _)) rfl rfl ?_
      rintro _ _ ⟨rfl, rfl⟩
      try simp only [List.set_cons_zero, List.set_cons_succ]
      refine l_nil ?_
      refine c_seq ?_
      refine c_seq ?_
      refine c_region ?_
      refine l_l rfl rfl rfl ?_
      refine l_b rfl rfl rfl (fun h3 => ?_) (fun h3 => ?_)
      · refine l_l rfl rfl rfl ?_
        refine l_l rfl rfl rfl ?_
        refine l_l rfl rfl rfl ?_
        refine l_nil ?_
        refine c_cond rfl (fun h4 => ?_) (fun h4 => ?_)
        · refine c_seq ?_
          refine c_region ?_
          refine l_l rfl rfl rfl ?_
          refine l_nil ?_
          refine c_ret ?_
          exact l_end (fun _ _ => rets_v rfl) (List.Sublist.refl _) ⟨congrArg _ (by unfold askV; rw [← sig_yes hu (by unfold anyU; simp_all)]; simp_all), rfl⟩
        · refine c_skip ?_
          refine c_seq ?_
          refine c_region ?_
          refine l_l rfl rfl rfl ?_
          refine l_nil ?_
          refine c_ret ?_
          exact l_end (fun _ _ => rets_v rfl) (List.Sublist.refl _) ⟨congrArg _ (by unfold askV; rw [← sig_yes hu (by unfold anyU; simp_all)]; simp_all), rfl⟩
      · refine l_p rfl rfl ?_
        refine l_p rfl rfl ?_
        refine l_l rfl rfl rfl ?_
        refine l_nil ?_
        refine c_false rfl ?_
        refine c_skip ?_
        refine c_seq ?_
        refine c_region ?_
        refine l_l rfl rfl rfl ?_
        refine l_nil ?_
        refine c_ret ?_
        exact l_end (fun _ _ => rets_v rfl) (List.Sublist.refl _) ⟨congrArg _ (by unfold askV; rw [← sig_yes hu (by unfold anyU; simp_all)]; simp_all), rfl⟩
    · refine d_light rfl rfl rfl rfl rfl ?_
      refine d_x rfl (x_val call_67 rfl (fun w hw => bit_fn _ _ (hu.look 1) ⟨by decide, by decide⟩ w)) rfl rfl (by intro h; cases h) ?_
      rintro _ _ ⟨rfl, rfl⟩
      refine d_light rfl rfl rfl rfl rfl ?_
      refine d_bool rfl rfl rfl rfl (fun h5 => ?_) (fun h5 => ?_)
      · refine d_light rfl rfl rfl rfl rfl ?_
        refine d_light rfl rfl rfl rfl rfl ?_
        refine d_light rfl rfl rfl rfl rfl ?_
        refine d_light rfl rfl rfl rfl rfl ?_
        refine d_bool rfl rfl rfl rfl (fun h6 => ?_) (fun h6 => ?_)
        · refine d_pass rfl rfl rfl ?_
          refine d_passH rfl rfl rfl ?_
          refine d_pass rfl rfl rfl ?_
          refine d_pass rfl rfl rfl ?_
          refine d_pass rfl rfl rfl ?_
          refine d_pass rfl rfl rfl ?_
          refine d_pass rfl rfl rfl ?_
          refine d_light rfl rfl rfl rfl rfl ?_
          refine d_light rfl rfl rfl rfl rfl ?_
          refine d_pass rfl rfl rfl ?_
          refine d_passH rfl rfl rfl ?_
          refine d_pass rfl rfl rfl ?_
          refine d_pass rfl rfl rfl ?_
          refine d_pass rfl rfl rfl ?_
          refine d_pass rfl rfl rfl ?_
          refine d_pass rfl rfl rfl ?_
          refine d_light rfl rfl rfl rfl rfl ?_
          refine d_light rfl rfl rfl rfl rfl ?_
          refine d_nil ?_
          refine c_seq ?_
          refine c_region ?_
          refine l_l rfl rfl rfl ?_
          refine l_l rfl rfl rfl ?_
          refine l_l rfl rfl rfl ?_
          refine l_x (x_val call_48 rfl (fun w hw => on_fn b bv bs u hu w (RRow.of hw (by repeat (first | exact .head _ | refine .tail _ ?_ | refine List.mem_append_right _ ?_)) (by repeat (first | exact .head _ | refine .tail _ ?_ | refine List.mem_append_right _ ?_)) (by repeat (first | exact .head _ | refine .tail _ ?_ | refine List.mem_append_right _ ?_))))) rfl rfl ?_
          rintro _ _ ⟨rfl, rfl⟩
          refine l_l rfl rfl rfl ?_
          refine l_l rfl rfl rfl ?_
          refine l_nil ?_
          refine c_seq ?_
          refine c_region ?_
          refine l_l rfl rfl rfl ?_
          refine l_l rfl rfl rfl ?_
          refine l_l (light_fa rfl rfl) rfl rfl ?_
          refine l_x (x_load rfl rfl (at_own (by repeat (first | exact .head _ | refine .tail _ ?_ | refine List.mem_append_right _ ?_)) (cW_sig hu))) rfl rfl ?_
          rintro _ _ ⟨rfl, rfl⟩
          refine l_l rfl rfl rfl ?_
          refine l_nil ?_
          refine c_seq ?_
          refine c_region ?_
          refine l_l rfl rfl rfl ?_
          refine l_l rfl rfl rfl ?_
          refine l_l rfl rfl rfl ?_
          refine l_l (light_fa rfl rfl) rfl rfl ?_
          refine l_x (x_storeTo (l' := cW bv bs (askU u)) 0 rfl rfl rfl rfl rfl rfl (by rw [cW_len hu]; simp only [List.length_cons, List.length_nil]; omega) (by have h9 : litU u = sigU u := sig_yes hu (by unfold anyU; simp_all); rw [h9]; exact putW_sig hu _)) rfl rfl ?_
          rintro _ _ ⟨rfl, rfl⟩
          try simp only [List.set_cons_zero, List.set_cons_succ]
          refine l_nil ?_
          refine c_seq ?_
          refine c_seq ?_
          refine c_region ?_
          refine l_l rfl rfl rfl ?_
          refine l_b rfl rfl rfl (fun h7 => ?_) (fun h7 => ?_)
          · refine l_l rfl rfl rfl ?_
            refine l_l rfl rfl rfl ?_
            refine l_l rfl rfl rfl ?_
            refine l_nil ?_
            refine c_cond rfl (fun h8 => ?_) (fun h8 => ?_)
            · refine c_seq ?_
              refine c_region ?_
              refine l_l rfl rfl rfl ?_
              refine l_nil ?_
              refine c_ret ?_
              exact l_end (fun _ _ => rets_v rfl) (List.Sublist.refl _) ⟨congrArg _ (by unfold askV; rw [← sig_yes hu (by unfold anyU; simp_all)]; simp_all), rfl⟩
            · refine c_skip ?_
              refine c_seq ?_
              refine c_region ?_
              refine l_l rfl rfl rfl ?_
              refine l_nil ?_
              refine c_ret ?_
              exact l_end (fun _ _ => rets_v rfl) (List.Sublist.refl _) ⟨congrArg _ (by unfold askV; rw [← sig_yes hu (by unfold anyU; simp_all)]; simp_all), rfl⟩
          · refine l_p rfl rfl ?_
            refine l_p rfl rfl ?_
            refine l_l rfl rfl rfl ?_
            refine l_nil ?_
            refine c_false rfl ?_
            refine c_skip ?_
            refine c_seq ?_
            refine c_region ?_
            refine l_l rfl rfl rfl ?_
            refine l_nil ?_
            refine c_ret ?_
            exact l_end (fun _ _ => rets_v rfl) (List.Sublist.refl _) ⟨congrArg _ (by unfold askV; rw [← sig_yes hu (by unfold anyU; simp_all)]; simp_all), rfl⟩
        · refine d_light rfl rfl rfl rfl rfl ?_
          refine d_x rfl (x_val call_67 rfl (fun w hw => bit_fn _ _ (hu.look 1) ⟨by decide, by decide⟩ w)) rfl rfl (by intro h; cases h) ?_
          rintro _ _ ⟨rfl, rfl⟩
          refine d_light rfl rfl rfl rfl rfl ?_
          refine d_bool rfl rfl rfl rfl (fun h9 => ?_) (fun h9 => ?_)
          · refine d_light rfl rfl rfl rfl rfl ?_
            refine d_light rfl rfl rfl rfl rfl ?_
            refine d_light rfl rfl rfl rfl rfl ?_
            refine d_light rfl rfl rfl rfl rfl ?_
            refine d_bool rfl rfl rfl rfl (fun h10 => ?_) (fun h10 => ?_)
            · refine d_pass rfl rfl rfl ?_
              refine d_passH rfl rfl rfl ?_
              refine d_pass rfl rfl rfl ?_
              refine d_pass rfl rfl rfl ?_
              refine d_pass rfl rfl rfl ?_
              refine d_pass rfl rfl rfl ?_
              refine d_pass rfl rfl rfl ?_
              refine d_light rfl rfl rfl rfl rfl ?_
              refine d_light rfl rfl rfl rfl rfl ?_
              refine d_nil ?_
              refine c_seq ?_
              refine c_region ?_
              refine l_l rfl rfl rfl ?_
              refine l_l rfl rfl rfl ?_
              refine l_l rfl rfl rfl ?_
              refine l_x (x_val call_48 rfl (fun w hw => on_fn b bv bs u hu w (RRow.of hw (by repeat (first | exact .head _ | refine .tail _ ?_ | refine List.mem_append_right _ ?_)) (by repeat (first | exact .head _ | refine .tail _ ?_ | refine List.mem_append_right _ ?_)) (by repeat (first | exact .head _ | refine .tail _ ?_ | refine List.mem_append_right _ ?_))))) rfl rfl ?_
              rintro _ _ ⟨rfl, rfl⟩
              refine l_l rfl rfl rfl ?_
              refine l_l rfl rfl rfl ?_
              refine l_nil ?_
              refine c_seq ?_
              refine c_region ?_
              refine l_l rfl rfl rfl ?_
              refine l_l rfl rfl rfl ?_
              refine l_l (light_fa rfl rfl) rfl rfl ?_
              refine l_x (x_load rfl rfl (at_own (by repeat (first | exact .head _ | refine .tail _ ?_ | refine List.mem_append_right _ ?_)) (cW_sig hu))) rfl rfl ?_
              rintro _ _ ⟨rfl, rfl⟩
              refine l_l rfl rfl rfl ?_
              refine l_nil ?_
              refine c_seq ?_
              refine c_region ?_
              refine l_l rfl rfl rfl ?_
              refine l_l rfl rfl rfl ?_
              refine l_l rfl rfl rfl ?_
              refine l_l (light_fa rfl rfl) rfl rfl ?_
              refine l_x (x_storeTo (l' := cW bv bs (askU u)) 0 rfl rfl rfl rfl rfl rfl (by rw [cW_len hu]; simp only [List.length_cons, List.length_nil]; omega) (by have h9 : litU u = sigU u := sig_yes hu (by unfold anyU; simp_all); rw [h9]; exact putW_sig hu _)) rfl rfl ?_
              rintro _ _ ⟨rfl, rfl⟩
              try simp only [List.set_cons_zero, List.set_cons_succ]
              refine l_nil ?_
              refine c_seq ?_
              refine c_seq ?_
              refine c_region ?_
              refine l_l rfl rfl rfl ?_
              refine l_b rfl rfl rfl (fun h11 => ?_) (fun h11 => ?_)
              · refine l_l rfl rfl rfl ?_
                refine l_l rfl rfl rfl ?_
                refine l_l rfl rfl rfl ?_
                refine l_nil ?_
                refine c_cond rfl (fun h12 => ?_) (fun h12 => ?_)
                · refine c_seq ?_
                  refine c_region ?_
                  refine l_l rfl rfl rfl ?_
                  refine l_nil ?_
                  refine c_ret ?_
                  exact l_end (fun _ _ => rets_v rfl) (List.Sublist.refl _) ⟨congrArg _ (by unfold askV; rw [← sig_yes hu (by unfold anyU; simp_all)]; simp_all), rfl⟩
                · refine c_skip ?_
                  refine c_seq ?_
                  refine c_region ?_
                  refine l_l rfl rfl rfl ?_
                  refine l_nil ?_
                  refine c_ret ?_
                  exact l_end (fun _ _ => rets_v rfl) (List.Sublist.refl _) ⟨congrArg _ (by unfold askV; rw [← sig_yes hu (by unfold anyU; simp_all)]; simp_all), rfl⟩
              · refine l_p rfl rfl ?_
                refine l_p rfl rfl ?_
                refine l_l rfl rfl rfl ?_
                refine l_nil ?_
                refine c_false rfl ?_
                refine c_skip ?_
                refine c_seq ?_
                refine c_region ?_
                refine l_l rfl rfl rfl ?_
                refine l_nil ?_
                refine c_ret ?_
                exact l_end (fun _ _ => rets_v rfl) (List.Sublist.refl _) ⟨congrArg _ (by unfold askV; rw [← sig_yes hu (by unfold anyU; simp_all)]; simp_all), rfl⟩
            · refine d_light rfl rfl rfl rfl rfl ?_
              refine d_x rfl (x_val call_67 rfl (fun w hw => bit_fn _ _ (hu.look 1) ⟨by decide, by decide⟩ w)) rfl rfl (by intro h; cases h) ?_
              rintro _ _ ⟨rfl, rfl⟩
              refine d_light rfl rfl rfl rfl rfl ?_
              refine d_bool rfl rfl rfl rfl (fun h13 => ?_) (fun h13 => ?_)
              · refine d_light rfl rfl rfl rfl rfl ?_
                refine d_light rfl rfl rfl rfl rfl ?_
                refine d_light rfl rfl rfl rfl rfl ?_
                refine d_light rfl rfl rfl rfl rfl ?_
                refine d_light rfl rfl rfl rfl rfl ?_
                refine d_nil ?_
                refine c_seq ?_
                refine c_region ?_
                refine l_l rfl rfl rfl ?_
                refine l_b rfl rfl rfl (fun h14 => ?_) (fun h14 => ?_)
                · refine l_l rfl rfl rfl ?_
                  refine l_x (x_val call_48 rfl (fun w hw => on_fn b bv bs u hu w (RRow.of hw (by repeat (first | exact .head _ | refine .tail _ ?_ | refine List.mem_append_right _ ?_)) (by repeat (first | exact .head _ | refine .tail _ ?_ | refine List.mem_append_right _ ?_)) (by repeat (first | exact .head _ | refine .tail _ ?_ | refine List.mem_append_right _ ?_))))) rfl rfl ?_
                  rintro _ _ ⟨rfl, rfl⟩
                  refine l_l rfl rfl rfl ?_
                  refine l_l rfl rfl rfl ?_
                  refine l_nil ?_
                  refine c_seq ?_
                  refine c_region ?_
                  refine l_l rfl rfl rfl ?_
                  refine l_l rfl rfl rfl ?_
                  refine l_l (light_fa rfl rfl) rfl rfl ?_
                  refine l_x (x_load rfl rfl (at_own (by repeat (first | exact .head _ | refine .tail _ ?_ | refine List.mem_append_right _ ?_)) (cW_sig hu))) rfl rfl ?_
                  rintro _ _ ⟨rfl, rfl⟩
                  refine l_l rfl rfl rfl ?_
                  refine l_nil ?_
                  refine c_seq ?_
                  refine c_region ?_
                  refine l_l rfl rfl rfl ?_
                  refine l_l rfl rfl rfl ?_
                  refine l_l rfl rfl rfl ?_
                  refine l_l (light_fa rfl rfl) rfl rfl ?_
                  refine l_x (x_storeTo (l' := cW bv bs (askU u)) 0 rfl rfl rfl rfl rfl rfl (by rw [cW_len hu]; simp only [List.length_cons, List.length_nil]; omega) (by have h9 : litU u = sigU u := sig_yes hu (by unfold anyU; simp_all); rw [h9]; exact putW_sig hu _)) rfl rfl ?_
                  rintro _ _ ⟨rfl, rfl⟩
                  try simp only [List.set_cons_zero, List.set_cons_succ]
                  refine l_nil ?_
                  refine c_seq ?_
                  refine c_seq ?_
                  refine c_region ?_
                  refine l_l rfl rfl rfl ?_
                  refine l_b rfl rfl rfl (fun h15 => ?_) (fun h15 => ?_)
                  · refine l_l rfl rfl rfl ?_
                    refine l_l rfl rfl rfl ?_
                    refine l_l rfl rfl rfl ?_
                    refine l_nil ?_
                    refine c_cond rfl (fun h16 => ?_) (fun h16 => ?_)
                    · refine c_seq ?_
                      refine c_region ?_
                      refine l_l rfl rfl rfl ?_
                      refine l_nil ?_
                      refine c_ret ?_
                      exact l_end (fun _ _ => rets_v rfl) (List.Sublist.refl _) ⟨congrArg _ (by unfold askV; rw [← sig_yes hu (by unfold anyU; simp_all)]; simp_all), rfl⟩
                    · refine c_skip ?_
                      refine c_seq ?_
                      refine c_region ?_
                      refine l_l rfl rfl rfl ?_
                      refine l_nil ?_
                      refine c_ret ?_
                      exact l_end (fun _ _ => rets_v rfl) (List.Sublist.refl _) ⟨congrArg _ (by unfold askV; rw [← sig_yes hu (by unfold anyU; simp_all)]; simp_all), rfl⟩
                  · refine l_p rfl rfl ?_
                    refine l_p rfl rfl ?_
                    refine l_l rfl rfl rfl ?_
                    refine l_nil ?_
                    refine c_false rfl ?_
                    refine c_skip ?_
                    refine c_seq ?_
                    refine c_region ?_
                    refine l_l rfl rfl rfl ?_
                    refine l_nil ?_
                    refine c_ret ?_
                    exact l_end (fun _ _ => rets_v rfl) (List.Sublist.refl _) ⟨congrArg _ (by unfold askV; rw [← sig_yes hu (by unfold anyU; simp_all)]; simp_all), rfl⟩
                · refine l_p rfl rfl ?_
                  refine l_p rfl rfl ?_
                  refine l_l rfl rfl rfl ?_
                  refine l_l rfl rfl rfl ?_
                  refine l_nil ?_
                  refine c_seq ?_
                  refine c_region ?_
                  refine l_l rfl rfl rfl ?_
                  refine l_l rfl rfl rfl ?_
                  refine l_l (light_fa rfl rfl) rfl rfl ?_
                  refine l_x (x_load rfl rfl (at_own (by repeat (first | exact .head _ | refine .tail _ ?_ | refine List.mem_append_right _ ?_)) (cW_sig hu))) rfl rfl ?_
                  rintro _ _ ⟨rfl, rfl⟩
                  refine l_l rfl rfl rfl ?_
                  refine l_nil ?_
                  refine c_seq ?_
                  refine c_region ?_
                  refine l_l rfl rfl rfl ?_
                  refine l_l rfl rfl rfl ?_
                  refine l_l rfl rfl rfl ?_
                  refine l_l (light_fa rfl rfl) rfl rfl ?_
                  refine l_x (x_storeTo (l' := cW bv bs (askU u)) 0 rfl rfl rfl rfl rfl rfl (by rw [cW_len hu]; simp only [List.length_cons, List.length_nil]; omega) (by have h9 : false = sigU u := sig_no hu (by unfold anyU; simp_all); rw [h9]; exact putW_sig hu _)) rfl rfl ?_
                  rintro _ _ ⟨rfl, rfl⟩
                  try simp only [List.set_cons_zero, List.set_cons_succ]
                  refine l_nil ?_
                  refine c_seq ?_
                  refine c_seq ?_
                  refine c_region ?_
                  refine l_l rfl rfl rfl ?_
                  refine l_l rfl rfl rfl ?_
                  refine l_p rfl rfl ?_
                  refine l_p rfl rfl ?_
                  refine l_l rfl rfl rfl ?_
                  refine l_nil ?_
                  refine c_false rfl ?_
                  refine c_skip ?_
                  refine c_seq ?_
                  refine c_region ?_
                  refine l_l rfl rfl rfl ?_
                  refine l_nil ?_
                  refine c_ret ?_
                  exact l_end (fun _ _ => rets_v rfl) (List.Sublist.refl _) ⟨congrArg _ (by unfold askV; rw [← sig_no hu (by unfold anyU; simp_all)]; simp_all), rfl⟩
              · refine d_pass rfl rfl rfl ?_
                refine d_pass rfl rfl rfl ?_
                refine d_light rfl rfl rfl rfl rfl ?_
                refine d_light rfl rfl rfl rfl rfl ?_
                refine d_light rfl rfl rfl rfl rfl ?_
                refine d_nil ?_
                refine c_seq ?_
                refine c_region ?_
                refine l_l rfl rfl rfl ?_
                refine l_l rfl rfl rfl ?_
                refine l_p rfl rfl ?_
                refine l_p rfl rfl ?_
                refine l_l rfl rfl rfl ?_
                refine l_l rfl rfl rfl ?_
                refine l_nil ?_
                refine c_seq ?_
                refine c_region ?_
                refine l_l rfl rfl rfl ?_
                refine l_l rfl rfl rfl ?_
                refine l_l (light_fa rfl rfl) rfl rfl ?_
                refine l_x (x_load rfl rfl (at_own (by repeat (first | exact .head _ | refine .tail _ ?_ | refine List.mem_append_right _ ?_)) (cW_sig hu))) rfl rfl ?_
                rintro _ _ ⟨rfl, rfl⟩
                refine l_l rfl rfl rfl ?_
                refine l_nil ?_
                refine c_seq ?_
                refine c_region ?_
                refine l_l rfl rfl rfl ?_
                refine l_l rfl rfl rfl ?_
                refine l_l rfl rfl rfl ?_
                refine l_l (light_fa rfl rfl) rfl rfl ?_
                refine l_x (x_storeTo (l' := cW bv bs (askU u)) 0 rfl rfl rfl rfl rfl rfl (by rw [cW_len hu]; simp only [List.length_cons, List.length_nil]; omega) (by have h9 : false = sigU u := sig_no hu (by unfold anyU; simp_all); rw [h9]; exact putW_sig hu _)) rfl rfl ?_
                rintro _ _ ⟨rfl, rfl⟩
                try simp only [List.set_cons_zero, List.set_cons_succ]
                refine l_nil ?_
                refine c_seq ?_
                refine c_seq ?_
                refine c_region ?_
                refine l_l rfl rfl rfl ?_
                refine l_l rfl rfl rfl ?_
                refine l_p rfl rfl ?_
                refine l_p rfl rfl ?_
                refine l_l rfl rfl rfl ?_
                refine l_nil ?_
                refine c_false rfl ?_
                refine c_skip ?_
                refine c_seq ?_
                refine c_region ?_
                refine l_l rfl rfl rfl ?_
                refine l_nil ?_
                refine c_ret ?_
                exact l_end (fun _ _ => rets_v rfl) (List.Sublist.refl _) ⟨congrArg _ (by unfold askV; rw [← sig_no hu (by unfold anyU; simp_all)]; simp_all), rfl⟩
          · refine d_pass rfl rfl rfl ?_
            refine d_pass rfl rfl rfl ?_
            refine d_light rfl rfl rfl rfl rfl ?_
            refine d_light rfl rfl rfl rfl rfl ?_
            refine d_light rfl rfl rfl rfl rfl ?_
            refine d_light rfl rfl rfl rfl rfl ?_
            refine d_x rfl (x_val call_67 rfl (fun w hw => bit_fn _ _ (hu.look 1) ⟨by decide, by decide⟩ w)) rfl rfl (by intro h; cases h) ?_
            rintro _ _ ⟨rfl, rfl⟩
            refine d_light rfl rfl rfl rfl rfl ?_
            refine d_bool rfl rfl rfl rfl (fun h17 => ?_) (fun h17 => ?_)
            · refine d_light rfl rfl rfl rfl rfl ?_
              refine d_light rfl rfl rfl rfl rfl ?_
              refine d_light rfl rfl rfl rfl rfl ?_
              refine d_light rfl rfl rfl rfl rfl ?_
              refine d_light rfl rfl rfl rfl rfl ?_
              refine d_nil ?_
              refine c_seq ?_
              refine c_region ?_
              refine l_l rfl rfl rfl ?_
              refine l_b rfl rfl rfl (fun h18 => ?_) (fun h18 => ?_)
              · refine l_l rfl rfl rfl ?_
                refine l_x (x_val call_48 rfl (fun w hw => on_fn b bv bs u hu w (RRow.of hw (by repeat (first | exact .head _ | refine .tail _ ?_ | refine List.mem_append_right _ ?_)) (by repeat (first | exact .head _ | refine .tail _ ?_ | refine List.mem_append_right _ ?_)) (by repeat (first | exact .head _ | refine .tail _ ?_ | refine List.mem_append_right _ ?_))))) rfl rfl ?_
                rintro _ _ ⟨rfl, rfl⟩
                refine l_l rfl rfl rfl ?_
                refine l_l rfl rfl rfl ?_
                refine l_nil ?_
                refine c_seq ?_
                refine c_region ?_
                refine l_l rfl rfl rfl ?_
                refine l_l rfl rfl rfl ?_
                refine l_l (light_fa rfl rfl) rfl rfl ?_
                refine l_x (x_load rfl rfl (at_own (by repeat (first | exact .head _ | refine .tail _ ?_ | refine List.mem_append_right _ ?_)) (cW_sig hu))) rfl rfl ?_
                rintro _ _ ⟨rfl, rfl⟩
                refine l_l rfl rfl rfl ?_
                refine l_nil ?_
                refine c_seq ?_
                refine c_region ?_
                refine l_l rfl rfl rfl ?_
                refine l_l rfl rfl rfl ?_
                refine l_l rfl rfl rfl ?_
                refine l_l (light_fa rfl rfl) rfl rfl ?_
                refine l_x (x_storeTo (l' := cW bv bs (askU u)) 0 rfl rfl rfl rfl rfl rfl (by rw [cW_len hu]; simp only [List.length_cons, List.length_nil]; omega) (by have h9 : litU u = sigU u := sig_yes hu (by unfold anyU; simp_all); rw [h9]; exact putW_sig hu _)) rfl rfl ?_
                rintro _ _ ⟨rfl, rfl⟩
                try simp only [List.set_cons_zero, List.set_cons_succ]
                refine l_nil ?_
                refine c_seq ?_
                refine c_seq ?_
                refine c_region ?_
                refine l_l rfl rfl rfl ?_
                refine l_b rfl rfl rfl (fun h19 => ?_) (fun h19 => ?_)
                · refine l_l rfl rfl rfl ?_
                  refine l_l rfl rfl rfl ?_
                  refine l_l rfl rfl rfl ?_
                  refine l_nil ?_
                  refine c_cond rfl (fun h20 => ?_) (fun h20 => ?_)
                  · refine c_seq ?_
                    refine c_region ?_
                    refine l_l rfl rfl rfl ?_
                    refine l_nil ?_
                    refine c_ret ?_
                    exact l_end (fun _ _ => rets_v rfl) (List.Sublist.refl _) ⟨congrArg _ (by unfold askV; rw [← sig_yes hu (by unfold anyU; simp_all)]; simp_all), rfl⟩
                  · refine c_skip ?_
                    refine c_seq ?_
                    refine c_region ?_
                    refine l_l rfl rfl rfl ?_
                    refine l_nil ?_
                    refine c_ret ?_
                    exact l_end (fun _ _ => rets_v rfl) (List.Sublist.refl _) ⟨congrArg _ (by unfold askV; rw [← sig_yes hu (by unfold anyU; simp_all)]; simp_all), rfl⟩
                · refine l_p rfl rfl ?_
                  refine l_p rfl rfl ?_
                  refine l_l rfl rfl rfl ?_
                  refine l_nil ?_
                  refine c_false rfl ?_
                  refine c_skip ?_
                  refine c_seq ?_
                  refine c_region ?_
                  refine l_l rfl rfl rfl ?_
                  refine l_nil ?_
                  refine c_ret ?_
                  exact l_end (fun _ _ => rets_v rfl) (List.Sublist.refl _) ⟨congrArg _ (by unfold askV; rw [← sig_yes hu (by unfold anyU; simp_all)]; simp_all), rfl⟩
              · refine l_p rfl rfl ?_
                refine l_p rfl rfl ?_
                refine l_l rfl rfl rfl ?_
                refine l_l rfl rfl rfl ?_
                refine l_nil ?_
                refine c_seq ?_
                refine c_region ?_
                refine l_l rfl rfl rfl ?_
                refine l_l rfl rfl rfl ?_
                refine l_l (light_fa rfl rfl) rfl rfl ?_
                refine l_x (x_load rfl rfl (at_own (by repeat (first | exact .head _ | refine .tail _ ?_ | refine List.mem_append_right _ ?_)) (cW_sig hu))) rfl rfl ?_
                rintro _ _ ⟨rfl, rfl⟩
                refine l_l rfl rfl rfl ?_
                refine l_nil ?_
                refine c_seq ?_
                refine c_region ?_
                refine l_l rfl rfl rfl ?_
                refine l_l rfl rfl rfl ?_
                refine l_l rfl rfl rfl ?_
                refine l_l (light_fa rfl rfl) rfl rfl ?_
                refine l_x (x_storeTo (l' := cW bv bs (askU u)) 0 rfl rfl rfl rfl rfl rfl (by rw [cW_len hu]; simp only [List.length_cons, List.length_nil]; omega) (by have h9 : false = sigU u := sig_no hu (by unfold anyU; simp_all); rw [h9]; exact putW_sig hu _)) rfl rfl ?_
                rintro _ _ ⟨rfl, rfl⟩
                try simp only [List.set_cons_zero, List.set_cons_succ]
                refine l_nil ?_
                refine c_seq ?_
                refine c_seq ?_
                refine c_region ?_
                refine l_l rfl rfl rfl ?_
                refine l_l rfl rfl rfl ?_
                refine l_p rfl rfl ?_
                refine l_p rfl rfl ?_
                refine l_l rfl rfl rfl ?_
                refine l_nil ?_
                refine c_false rfl ?_
                refine c_skip ?_
                refine c_seq ?_
                refine c_region ?_
                refine l_l rfl rfl rfl ?_
                refine l_nil ?_
                refine c_ret ?_
                exact l_end (fun _ _ => rets_v rfl) (List.Sublist.refl _) ⟨congrArg _ (by unfold askV; rw [← sig_no hu (by unfold anyU; simp_all)]; simp_all), rfl⟩
            · refine d_pass rfl rfl rfl ?_
              refine d_pass rfl rfl rfl ?_
              refine d_light rfl rfl rfl rfl rfl ?_
              refine d_light rfl rfl rfl rfl rfl ?_
              refine d_light rfl rfl rfl rfl rfl ?_
              refine d_nil ?_
              refine c_seq ?_
              refine c_region ?_
              refine l_l rfl rfl rfl ?_
              refine l_l rfl rfl rfl ?_
              refine l_p rfl rfl ?_
              refine l_p rfl rfl ?_
              refine l_l rfl rfl rfl ?_
              refine l_l rfl rfl rfl ?_
              refine l_nil ?_
              refine c_seq ?_
              refine c_region ?_
              refine l_l rfl rfl rfl ?_
              refine l_l rfl rfl rfl ?_
              refine l_l (light_fa rfl rfl) rfl rfl ?_
              refine l_x (x_load rfl rfl (at_own (by repeat (first | exact .head _ | refine .tail _ ?_ | refine List.mem_append_right _ ?_)) (cW_sig hu))) rfl rfl ?_
              rintro _ _ ⟨rfl, rfl⟩
              refine l_l rfl rfl rfl ?_
              refine l_nil ?_
              refine c_seq ?_
              refine c_region ?_
              refine l_l rfl rfl rfl ?_
              refine l_l rfl rfl rfl ?_
              refine l_l rfl rfl rfl ?_
              refine l_l (light_fa rfl rfl) rfl rfl ?_
              refine l_x (x_storeTo (l' := cW bv bs (askU u)) 0 rfl rfl rfl rfl rfl rfl (by rw [cW_len hu]; simp only [List.length_cons, List.length_nil]; omega) (by have h9 : false = sigU u := sig_no hu (by unfold anyU; simp_all); rw [h9]; exact putW_sig hu _)) rfl rfl ?_
              rintro _ _ ⟨rfl, rfl⟩
              try simp only [List.set_cons_zero, List.set_cons_succ]
              refine l_nil ?_
              refine c_seq ?_
              refine c_seq ?_
              refine c_region ?_
              refine l_l rfl rfl rfl ?_
              refine l_l rfl rfl rfl ?_
              refine l_p rfl rfl ?_
              refine l_p rfl rfl ?_
              refine l_l rfl rfl rfl ?_
              refine l_nil ?_
              refine c_false rfl ?_
              refine c_skip ?_
              refine c_seq ?_
              refine c_region ?_
              refine l_l rfl rfl rfl ?_
              refine l_nil ?_
              refine c_ret ?_
              exact l_end (fun _ _ => rets_v rfl) (List.Sublist.refl _) ⟨congrArg _ (by unfold askV; rw [← sig_no hu (by unfold anyU; simp_all)]; simp_all), rfl⟩
      · refine d_pass rfl rfl rfl ?_
        refine d_pass rfl rfl rfl ?_
        refine d_light rfl rfl rfl rfl rfl ?_
        refine d_light rfl rfl rfl rfl rfl ?_
        refine d_light rfl rfl rfl rfl rfl ?_
        refine d_light rfl rfl rfl rfl rfl ?_
        refine d_x rfl (x_val call_67 rfl (fun w hw => bit_fn _ _ (hu.look 1) ⟨by decide, by decide⟩ w)) rfl rfl (by intro h; cases h) ?_
        rintro _ _ ⟨rfl, rfl⟩
        refine d_light rfl rfl rfl rfl rfl ?_
        refine d_bool rfl rfl rfl rfl (fun h21 => ?_) (fun h21 => ?_)
        · refine d_light rfl rfl rfl rfl rfl ?_
          refine d_light rfl rfl rfl rfl rfl ?_
          refine d_light rfl rfl rfl rfl rfl ?_
          refine d_light rfl rfl rfl rfl rfl ?_
          refine d_bool rfl rfl rfl rfl (fun h22 => ?_) (fun h22 => ?_)
          · refine d_pass rfl rfl rfl ?_
            refine d_passH rfl rfl rfl ?_
            refine d_pass rfl rfl rfl ?_
            refine d_pass rfl rfl rfl ?_
            refine d_pass rfl rfl rfl ?_
            refine d_pass rfl rfl rfl ?_
            refine d_pass rfl rfl rfl ?_
            refine d_light rfl rfl rfl rfl rfl ?_
            refine d_light rfl rfl rfl rfl rfl ?_
            refine d_nil ?_
            refine c_seq ?_
            refine c_region ?_
            refine l_l rfl rfl rfl ?_
            refine l_l rfl rfl rfl ?_
            refine l_l rfl rfl rfl ?_
            refine l_x (x_val call_48 rfl (fun w hw => on_fn b bv bs u hu w (RRow.of hw (by repeat (first | exact .head _ | refine .tail _ ?_ | refine List.mem_append_right _ ?_)) (by repeat (first | exact .head _ | refine .tail _ ?_ | refine List.mem_append_right _ ?_)) (by repeat (first | exact .head _ | refine .tail _ ?_ | refine List.mem_append_right _ ?_))))) rfl rfl ?_
            rintro _ _ ⟨rfl, rfl⟩
            refine l_l rfl rfl rfl ?_
            refine l_l rfl rfl rfl ?_
            refine l_nil ?_
            refine c_seq ?_
            refine c_region ?_
            refine l_l rfl rfl rfl ?_
            refine l_l rfl rfl rfl ?_
            refine l_l (light_fa rfl rfl) rfl rfl ?_
            refine l_x (x_load rfl rfl (at_own (by repeat (first | exact .head _ | refine .tail _ ?_ | refine List.mem_append_right _ ?_)) (cW_sig hu))) rfl rfl ?_
            rintro _ _ ⟨rfl, rfl⟩
            refine l_l rfl rfl rfl ?_
            refine l_nil ?_
            refine c_seq ?_
            refine c_region ?_
            refine l_l rfl rfl rfl ?_
            refine l_l rfl rfl rfl ?_
            refine l_l rfl rfl rfl ?_
            refine l_l (light_fa rfl rfl) rfl rfl ?_
            refine l_x (x_storeTo (l' := cW bv bs (askU u)) 0 rfl rfl rfl rfl rfl rfl (by rw [cW_len hu]; simp only [List.length_cons, List.length_nil]; omega) (by have h9 : litU u = sigU u := sig_yes hu (by unfold anyU; simp_all); rw [h9]; exact putW_sig hu _)) rfl rfl ?_
            rintro _ _ ⟨rfl, rfl⟩
            try simp only [List.set_cons_zero, List.set_cons_succ]
            refine l_nil ?_
            refine c_seq ?_
            refine c_seq ?_
            refine c_region ?_
            refine l_l rfl rfl rfl ?_
            refine l_b rfl rfl rfl (fun h23 => ?_) (fun h23 => ?_)
            · refine l_l rfl rfl rfl ?_
              refine l_l rfl rfl rfl ?_
              refine l_l rfl rfl rfl ?_
              refine l_nil ?_
              refine c_cond rfl (fun h24 => ?_) (fun h24 => ?_)
              · refine c_seq ?_
                refine c_region ?_
                refine l_l rfl rfl rfl ?_
                refine l_nil ?_
                refine c_ret ?_
                exact l_end (fun _ _ => rets_v rfl) (List.Sublist.refl _) ⟨congrArg _ (by unfold askV; rw [← sig_yes hu (by unfold anyU; simp_all)]; simp_all), rfl⟩
              · refine c_skip ?_
                refine c_seq ?_
                refine c_region ?_
                refine l_l rfl rfl rfl ?_
                refine l_nil ?_
                refine c_ret ?_
                exact l_end (fun _ _ => rets_v rfl) (List.Sublist.refl _) ⟨congrArg _ (by unfold askV; rw [← sig_yes hu (by unfold anyU; simp_all)]; simp_all), rfl⟩
            · refine l_p rfl rfl ?_
              refine l_p rfl rfl ?_
              refine l_l rfl rfl rfl ?_
              refine l_nil ?_
              refine c_false rfl ?_
              refine c_skip ?_
              refine c_seq ?_
              refine c_region ?_
              refine l_l rfl rfl rfl ?_
              refine l_nil ?_
              refine c_ret ?_
              exact l_end (fun _ _ => rets_v rfl) (List.Sublist.refl _) ⟨congrArg _ (by unfold askV; rw [← sig_yes hu (by unfold anyU; simp_all)]; simp_all), rfl⟩
          · refine d_light rfl rfl rfl rfl rfl ?_
            refine d_x rfl (x_val call_67 rfl (fun w hw => bit_fn _ _ (hu.look 1) ⟨by decide, by decide⟩ w)) rfl rfl (by intro h; cases h) ?_
            rintro _ _ ⟨rfl, rfl⟩
            refine d_light rfl rfl rfl rfl rfl ?_
            refine d_bool rfl rfl rfl rfl (fun h25 => ?_) (fun h25 => ?_)
            · refine d_light rfl rfl rfl rfl rfl ?_
              refine d_light rfl rfl rfl rfl rfl ?_
              refine d_light rfl rfl rfl rfl rfl ?_
              refine d_light rfl rfl rfl rfl rfl ?_
              refine d_light rfl rfl rfl rfl rfl ?_
              refine d_nil ?_
              refine c_seq ?_
              refine c_region ?_
              refine l_l rfl rfl rfl ?_
              refine l_b rfl rfl rfl (fun h26 => ?_) (fun h26 => ?_)
              · refine l_l rfl rfl rfl ?_
                refine l_x (x_val call_48 rfl (fun w hw => on_fn b bv bs u hu w (RRow.of hw (by repeat (first | exact .head _ | refine .tail _ ?_ | refine List.mem_append_right _ ?_)) (by repeat (first | exact .head _ | refine .tail _ ?_ | refine List.mem_append_right _ ?_)) (by repeat (first | exact .head _ | refine .tail _ ?_ | refine List.mem_append_right _ ?_))))) rfl rfl ?_
                rintro _ _ ⟨rfl, rfl⟩
                refine l_l rfl rfl rfl ?_
                refine l_l rfl rfl rfl ?_
                refine l_nil ?_
                refine c_seq ?_
                refine c_region ?_
                refine l_l rfl rfl rfl ?_
                refine l_l rfl rfl rfl ?_
                refine l_l (light_fa rfl rfl) rfl rfl ?_
                refine l_x (x_load rfl rfl (at_own (by repeat (first | exact .head _ | refine .tail _ ?_ | refine List.mem_append_right _ ?_)) (cW_sig hu))) rfl rfl ?_
                rintro _ _ ⟨rfl, rfl⟩
                refine l_l rfl rfl rfl ?_
                refine l_nil ?_
                refine c_seq ?_
                refine c_region ?_
                refine l_l rfl rfl rfl ?_
                refine l_l rfl rfl rfl ?_
                refine l_l rfl rfl rfl ?_
                refine l_l (light_fa rfl rfl) rfl rfl ?_
                refine l_x (x_storeTo (l' := cW bv bs (askU u)) 0 rfl rfl rfl rfl rfl rfl (by rw [cW_len hu]; simp only [List.length_cons, List.length_nil]; omega) (by have h9 : litU u = sigU u := sig_yes hu (by unfold anyU; simp_all); rw [h9]; exact putW_sig hu _)) rfl rfl ?_
                rintro _ _ ⟨rfl, rfl⟩
                try simp only [List.set_cons_zero, List.set_cons_succ]
                refine l_nil ?_
                refine c_seq ?_
                refine c_seq ?_
                refine c_region ?_
                refine l_l rfl rfl rfl ?_
                refine l_b rfl rfl rfl (fun h27 => ?_) (fun h27 => ?_)
                · refine l_l rfl rfl rfl ?_
                  refine l_l rfl rfl rfl ?_
                  refine l_l rfl rfl rfl ?_
                  refine l_nil ?_
                  refine c_cond rfl (fun h28 => ?_) (fun h28 => ?_)
                  · refine c_seq ?_
                    refine c_region ?_
                    refine l_l rfl rfl rfl ?_
                    refine l_nil ?_
                    refine c_ret ?_
                    exact l_end (fun _ _ => rets_v rfl) (List.Sublist.refl _) ⟨congrArg _ (by unfold askV; rw [← sig_yes hu (by unfold anyU; simp_all)]; simp_all), rfl⟩
                  · refine c_skip ?_
                    refine c_seq ?_
                    refine c_region ?_
                    refine l_l rfl rfl rfl ?_
                    refine l_nil ?_
                    refine c_ret ?_
                    exact l_end (fun _ _ => rets_v rfl) (List.Sublist.refl _) ⟨congrArg _ (by unfold askV; rw [← sig_yes hu (by unfold anyU; simp_all)]; simp_all), rfl⟩
                · refine l_p rfl rfl ?_
                  refine l_p rfl rfl ?_
                  refine l_l rfl rfl rfl ?_
                  refine l_nil ?_
                  refine c_false rfl ?_
                  refine c_skip ?_
                  refine c_seq ?_
                  refine c_region ?_
                  refine l_l rfl rfl rfl ?_
                  refine l_nil ?_
                  refine c_ret ?_
                  exact l_end (fun _ _ => rets_v rfl) (List.Sublist.refl _) ⟨congrArg _ (by unfold askV; rw [← sig_yes hu (by unfold anyU; simp_all)]; simp_all), rfl⟩
              · refine l_p rfl rfl ?_
                refine l_p rfl rfl ?_
                refine l_l rfl rfl rfl ?_
                refine l_l rfl rfl rfl ?_
                refine l_nil ?_
                refine c_seq ?_
                refine c_region ?_
                refine l_l rfl rfl rfl ?_
                refine l_l rfl rfl rfl ?_
                refine l_l (light_fa rfl rfl) rfl rfl ?_
                refine l_x (x_load rfl rfl (at_own (by repeat (first | exact .head _ | refine .tail _ ?_ | refine List.mem_append_right _ ?_)) (cW_sig hu))) rfl rfl ?_
                rintro _ _ ⟨rfl, rfl⟩
                refine l_l rfl rfl rfl ?_
                refine l_nil ?_
                refine c_seq ?_
                refine c_region ?_
                refine l_l rfl rfl rfl ?_
                refine l_l rfl rfl rfl ?_
                refine l_l rfl rfl rfl ?_
                refine l_l (light_fa rfl rfl) rfl rfl ?_
                refine l_x (x_storeTo (l' := cW bv bs (askU u)) 0 rfl rfl rfl rfl rfl rfl (by rw [cW_len hu]; simp only [List.length_cons, List.length_nil]; omega) (by have h9 : false = sigU u := sig_no hu (by unfold anyU; simp_all); rw [h9]; exact putW_sig hu _)) rfl rfl ?_
                rintro _ _ ⟨rfl, rfl⟩
                try simp only [List.set_cons_zero, List.set_cons_succ]
                refine l_nil ?_
                refine c_seq ?_
                refine c_seq ?_
                refine c_region ?_
                refine l_l rfl rfl rfl ?_
                refine l_l rfl rfl rfl ?_
                refine l_p rfl rfl ?_
                refine l_p rfl rfl ?_
                refine l_l rfl rfl rfl ?_
                refine l_nil ?_
                refine c_false rfl ?_
                refine c_skip ?_
                refine c_seq ?_
                refine c_region ?_
                refine l_l rfl rfl rfl ?_
                refine l_nil ?_
                refine c_ret ?_
                exact l_end (fun _ _ => rets_v rfl) (List.Sublist.refl _) ⟨congrArg _ (by unfold askV; rw [← sig_no hu (by unfold anyU; simp_all)]; simp_all), rfl⟩
            · refine d_pass rfl rfl rfl ?_
              refine d_pass rfl rfl rfl ?_
              refine d_light rfl rfl rfl rfl rfl ?_
              refine d_light rfl rfl rfl rfl rfl ?_
              refine d_light rfl rfl rfl rfl rfl ?_
              refine d_nil ?_
              refine c_seq ?_
              refine c_region ?_
              refine l_l rfl rfl rfl ?_
              refine l_l rfl rfl rfl ?_
              refine l_p rfl rfl ?_
              refine l_p rfl rfl ?_
              refine l_l rfl rfl rfl ?_
              refine l_l rfl rfl rfl ?_
              refine l_nil ?_
              refine c_seq ?_
              refine c_region ?_
              refine l_l rfl rfl rfl ?_
              refine l_l rfl rfl rfl ?_
              refine l_l (light_fa rfl rfl) rfl rfl ?_
              refine l_x (x_load rfl rfl (at_own (by repeat (first | exact .head _ | refine .tail _ ?_ | refine List.mem_append_right _ ?_)) (cW_sig hu))) rfl rfl ?_
              rintro _ _ ⟨rfl, rfl⟩
              refine l_l rfl rfl rfl ?_
              refine l_nil ?_
              refine c_seq ?_
              refine c_region ?_
              refine l_l rfl rfl rfl ?_
              refine l_l rfl rfl rfl ?_
              refine l_l rfl rfl rfl ?_
              refine l_l (light_fa rfl rfl) rfl rfl ?_
              refine l_x (x_storeTo (l' := cW bv bs (askU u)) 0 rfl rfl rfl rfl rfl rfl (by rw [cW_len hu]; simp only [List.length_cons, List.length_nil]; omega) (by have h9 : false = sigU u := sig_no hu (by unfold anyU; simp_all); rw [h9]; exact putW_sig hu _)) rfl rfl ?_
              rintro _ _ ⟨rfl, rfl⟩
              try simp only [List.set_cons_zero, List.set_cons_succ]
              refine l_nil ?_
              refine c_seq ?_
              refine c_seq ?_
              refine c_region ?_
              refine l_l rfl rfl rfl ?_
              refine l_l rfl rfl rfl ?_
              refine l_p rfl rfl ?_
              refine l_p rfl rfl ?_
              refine l_l rfl rfl rfl ?_
              refine l_nil ?_
              refine c_false rfl ?_
              refine c_skip ?_
              refine c_seq ?_
              refine c_region ?_
              refine l_l rfl rfl rfl ?_
              refine l_nil ?_
              refine c_ret ?_
              exact l_end (fun _ _ => rets_v rfl) (List.Sublist.refl _) ⟨congrArg _ (by unfold askV; rw [← sig_no hu (by unfold anyU; simp_all)]; simp_all), rfl⟩
        · refine d_pass rfl rfl rfl ?_
          refine d_pass rfl rfl rfl ?_
          refine d_light rfl rfl rfl rfl rfl ?_
          refine d_light rfl rfl rfl rfl rfl ?_
          refine d_light rfl rfl rfl rfl rfl ?_
          refine d_light rfl rfl rfl rfl rfl ?_
          refine d_x rfl (x_val call_67 rfl (fun w hw => bit_fn _ _ (hu.look 1) ⟨by decide, by decide⟩ w)) rfl rfl (by intro h; cases h) ?_
          rintro _ _ ⟨rfl, rfl⟩
          refine d_light rfl rfl rfl rfl rfl ?_
          refine d_bool rfl rfl rfl rfl (fun h29 => ?_) (fun h29 => ?_)
          · refine d_light rfl rfl rfl rfl rfl ?_
            refine d_light rfl rfl rfl rfl rfl ?_
            refine d_light rfl rfl rfl rfl rfl ?_
            refine d_light rfl rfl rfl rfl rfl ?_
            refine d_light rfl rfl rfl rfl rfl ?_
            refine d_nil ?_
            refine c_seq ?_
            refine c_region ?_
            refine l_l rfl rfl rfl ?_
            refine l_b rfl rfl rfl (fun h30 => ?_) (fun h30 => ?_)
            · refine l_l rfl rfl rfl ?_
              refine l_x (x_val call_48 rfl (fun w hw => on_fn b bv bs u hu w (RRow.of hw (by repeat (first | exact .head _ | refine .tail _ ?_ | refine List.mem_append_right _ ?_)) (by repeat (first | exact .head _ | refine .tail _ ?_ | refine List.mem_append_right _ ?_)) (by repeat (first | exact .head _ | refine .tail _ ?_ | refine List.mem_append_right _ ?_))))) rfl rfl ?_
              rintro _ _ ⟨rfl, rfl⟩
              refine l_l rfl rfl rfl ?_
              refine l_l rfl rfl rfl ?_
              refine l_nil ?_
              refine c_seq ?_
              refine c_region ?_
              refine l_l rfl rfl rfl ?_
              refine l_l rfl rfl rfl ?_
              refine l_l (light_fa rfl rfl) rfl rfl ?_
              refine l_x (x_load rfl rfl (at_own (by repeat (first | exact .head _ | refine .tail _ ?_ | refine List.mem_append_right _ ?_)) (cW_sig hu))) rfl rfl ?_
              rintro _ _ ⟨rfl, rfl⟩
              refine l_l rfl rfl rfl ?_
              refine l_nil ?_
              refine c_seq ?_
              refine c_region ?_
              refine l_l rfl rfl rfl ?_
              refine l_l rfl rfl rfl ?_
              refine l_l rfl rfl rfl ?_
              refine l_l (light_fa rfl rfl) rfl rfl ?_
              refine l_x (x_storeTo (l' := cW bv bs (askU u)) 0 rfl rfl rfl rfl rfl rfl (by rw [cW_len hu]; simp only [List.length_cons, List.length_nil]; omega) (by have h9 : litU u = sigU u := sig_yes hu (by unfold anyU; simp_all); rw [h9]; exact putW_sig hu _)) rfl rfl ?_
              rintro _ _ ⟨rfl, rfl⟩
              try simp only [List.set_cons_zero, List.set_cons_succ]
              refine l_nil ?_
              refine c_seq ?_
              refine c_seq ?_
              refine c_region ?_
              refine l_l rfl rfl rfl ?_
              refine l_b rfl rfl rfl (fun h31 => ?_) (fun h31 => ?_)
              · refine l_l rfl rfl rfl ?_
                refine l_l rfl rfl rfl ?_
                refine l_l rfl rfl rfl ?_
                refine l_nil ?_
                refine c_cond rfl (fun h32 => ?_) (fun h32 => ?_)
                · refine c_seq ?_
                  refine c_region ?_
                  refine l_l rfl rfl rfl ?_
                  refine l_nil ?_
                  refine c_ret ?_
                  exact l_end (fun _ _ => rets_v rfl) (List.Sublist.refl _) ⟨congrArg _ (by unfold askV; rw [← sig_yes hu (by unfold anyU; simp_all)]; simp_all), rfl⟩
                · refine c_skip ?_
                  refine c_seq ?_
                  refine c_region ?_
                  refine l_l rfl rfl rfl ?_
                  refine l_nil ?_
                  refine c_ret ?_
                  exact l_end (fun _ _ => rets_v rfl) (List.Sublist.refl _) ⟨congrArg _ (by unfold askV; rw [← sig_yes hu (by unfold anyU; simp_all)]; simp_all), rfl⟩
              · refine l_p rfl rfl ?_
                refine l_p rfl rfl ?_
                refine l_l rfl rfl rfl ?_
                refine l_nil ?_
                refine c_false rfl ?_
                refine c_skip ?_
                refine c_seq ?_
                refine c_region ?_
                refine l_l rfl rfl rfl ?_
                refine l_nil ?_
                refine c_ret ?_
                exact l_end (fun _ _ => rets_v rfl) (List.Sublist.refl _) ⟨congrArg _ (by unfold askV; rw [← sig_yes hu (by unfold anyU; simp_all)]; simp_all), rfl⟩
            · refine l_p rfl rfl ?_
              refine l_p rfl rfl ?_
              refine l_l rfl rfl rfl ?_
              refine l_l rfl rfl rfl ?_
              refine l_nil ?_
              refine c_seq ?_
              refine c_region ?_
              refine l_l rfl rfl rfl ?_
              refine l_l rfl rfl rfl ?_
              refine l_l (light_fa rfl rfl) rfl rfl ?_
              refine l_x (x_load rfl rfl (at_own (by repeat (first | exact .head _ | refine .tail _ ?_ | refine List.mem_append_right _ ?_)) (cW_sig hu))) rfl rfl ?_
              rintro _ _ ⟨rfl, rfl⟩
              refine l_l rfl rfl rfl ?_
              refine l_nil ?_
              refine c_seq ?_
              refine c_region ?_
              refine l_l rfl rfl rfl ?_
              refine l_l rfl rfl rfl ?_
              refine l_l rfl rfl rfl ?_
              refine l_l (light_fa rfl rfl) rfl rfl ?_
              refine l_x (x_storeTo (l' := cW bv bs (askU u)) 0 rfl rfl rfl rfl rfl rfl (by rw [cW_len hu]; simp only [List.length_cons, List.length_nil]; omega) (by have h9 : false = sigU u := sig_no hu (by unfold anyU; simp_all); rw [h9]; exact putW_sig hu _)) rfl rfl ?_
              rintro _ _ ⟨rfl, rfl⟩
              try simp only [List.set_cons_zero, List.set_cons_succ]
              refine l_nil ?_
              refine c_seq ?_
              refine c_seq ?_
              refine c_region ?_
              refine l_l rfl rfl rfl ?_
              refine l_l rfl rfl rfl ?_
              refine l_p rfl rfl ?_
              refine l_p rfl rfl ?_
              refine l_l rfl rfl rfl ?_
              refine l_nil ?_
              refine c_false rfl ?_
              refine c_skip ?_
              refine c_seq ?_
              refine c_region ?_
              refine l_l rfl rfl rfl ?_
              refine l_nil ?_
              refine c_ret ?_
              exact l_end (fun _ _ => rets_v rfl) (List.Sublist.refl _) ⟨congrArg _ (by unfold askV; rw [← sig_no hu (by unfold anyU; simp_all)]; simp_all), rfl⟩
          · refine d_pass rfl rfl rfl ?_
            refine d_pass rfl rfl rfl ?_
            refine d_light rfl rfl rfl rfl rfl ?_
            refine d_light rfl rfl rfl rfl rfl ?_
            refine d_light rfl rfl rfl rfl rfl ?_
            refine d_nil ?_
            refine c_seq ?_
            refine c_region ?_
            refine l_l rfl rfl rfl ?_
            refine l_l rfl rfl rfl ?_
            refine l_p rfl rfl ?_
            refine l_p rfl rfl ?_
            refine l_l rfl rfl rfl ?_
            refine l_l rfl rfl rfl ?_
            refine l_nil ?_
            refine c_seq ?_
            refine c_region ?_
            refine l_l rfl rfl rfl ?_
            refine l_l rfl rfl rfl ?_
            refine l_l (light_fa rfl rfl) rfl rfl ?_
            refine l_x (x_load rfl rfl (at_own (by repeat (first | exact .head _ | refine .tail _ ?_ | refine List.mem_append_right _ ?_)) (cW_sig hu))) rfl rfl ?_
            rintro _ _ ⟨rfl, rfl⟩
            refine l_l rfl rfl rfl ?_
            refine l_nil ?_
            refine c_seq ?_
            refine c_region ?_
            refine l_l rfl rfl rfl ?_
            refine l_l rfl rfl rfl ?_
            refine l_l rfl rfl rfl ?_
            refine l_l (light_fa rfl rfl) rfl rfl ?_
            refine l_x (x_storeTo (l' := cW bv bs (askU u)) 0 rfl rfl rfl rfl rfl rfl (by rw [cW_len hu]; simp only [List.length_cons, List.length_nil]; omega) (by have h9 : false = sigU u := sig_no hu (by unfold anyU; simp_all); rw [h9]; exact putW_sig hu _)) rfl rfl ?_
            rintro _ _ ⟨rfl, rfl⟩
            try simp only [List.set_cons_zero, List.set_cons_succ]
            refine l_nil ?_
            refine c_seq ?_
            refine c_seq ?_
            refine c_region ?_
            refine l_l rfl rfl rfl ?_
            refine l_l rfl rfl rfl ?_
            refine l_p rfl rfl ?_
            refine l_p rfl rfl ?_
            refine l_l rfl rfl rfl ?_
            refine l_nil ?_
            refine c_false rfl ?_
            refine c_skip ?_
            refine c_seq ?_
            refine c_region ?_
            refine l_l rfl rfl rfl ?_
            refine l_nil ?_
            refine c_ret ?_
            exact l_end (fun _ _ => rets_v rfl) (List.Sublist.refl _) ⟨congrArg _ (by unfold askV; rw [← sig_no hu (by unfold anyU; simp_all)]; simp_all), rfl⟩
  · refine d_pass rfl rfl rfl ?_
    refine d_pass rfl rfl rfl ?_
    refine d_pass rfl rfl rfl ?_
    refine d_pass rfl rfl rfl ?_
    refine d_pass rfl rfl rfl ?_
    refine d_pass rfl rfl rfl ?_
    refine d_pass rfl rfl rfl ?_
    refine d_pass rfl rfl rfl ?_
    refine d_pass rfl rfl rfl ?_
    refine d_pass rfl rfl rfl ?_
    refine d_pass rfl rfl rfl ?_
    refine d_light rfl rfl rfl rfl rfl ?_
    refine d_light rfl rfl rfl rfl rfl ?_
    refine d_light rfl rfl rfl rfl rfl ?_
    refine d_x rfl (x_val call_67 rfl (fun w hw => bit_fn _ _ (hu.look 1) ⟨by decide, by decide⟩ w)) rfl rfl (by intro h; cases h) ?_
    rintro _ _ ⟨rfl, rfl⟩
    refine d_light rfl rfl rfl rfl rfl ?_
    refine d_bool rfl rfl rfl rfl (fun h33 => ?_) (fun h33 => ?_)
    · refine d_light rfl rfl rfl rfl rfl ?_
      refine d_light rfl rfl rfl rfl rfl ?_
      refine d_light rfl rfl rfl rfl rfl ?_
      refine d_light rfl rfl rfl rfl rfl ?_
      refine d_bool rfl rfl rfl rfl (fun h34 => ?_) (fun h34 => ?_)
      · refine d_pass rfl rfl rfl ?_
        refine d_passH rfl rfl rfl ?_
        refine d_pass rfl rfl rfl ?_
        refine d_pass rfl rfl rfl ?_
        refine d_pass rfl rfl rfl ?_
        refine d_pass rfl rfl rfl ?_
        refine d_pass rfl rfl rfl ?_
        refine d_light rfl rfl rfl rfl rfl ?_
        refine d_light rfl rfl rfl rfl rfl ?_
        refine d_pass rfl rfl rfl ?_
        refine d_passH rfl rfl rfl ?_
        refine d_pass rfl rfl rfl ?_
        refine d_pass rfl rfl rfl ?_
        refine d_pass rfl rfl rfl ?_
        refine d_pass rfl rfl rfl ?_
        refine d_pass rfl rfl rfl ?_
        refine d_light rfl rfl rfl rfl rfl ?_
        refine d_light rfl rfl rfl rfl rfl ?_
        refine d_nil ?_
        refine c_seq ?_
        refine c_region ?_
        refine l_l rfl rfl rfl ?_
        refine l_l rfl rfl rfl ?_
        refine l_l rfl rfl rfl ?_
        refine l_x (x_val call_48 rfl (fun w hw => on_fn b bv bs u hu w (RRow.of hw (by repeat (first | exact .head _ | refine .tail _ ?_ | refine List.mem_append_right _ ?_)) (by repeat (first | exact .head _ | refine .tail _ ?_ | refine List.mem_append_right _ ?_)) (by repeat (first | exact .head _ | refine .tail _ ?_ | refine List.mem_append_right _ ?_))))) rfl rfl ?_
        rintro _ _ ⟨rfl, rfl⟩
        refine l_l rfl rfl rfl ?_
        refine l_l rfl rfl rfl ?_
        refine l_nil ?_
        refine c_seq ?_
        refine c_region ?_
        refine l_l rfl rfl rfl ?_
        refine l_l rfl rfl rfl ?_
        refine l_l (light_fa rfl rfl) rfl rfl ?_
        refine l_x (x_load rfl rfl (at_own (by repeat (first | exact .head _ | refine .tail _ ?_ | refine List.mem_append_right _ ?_)) (cW_sig hu))) rfl rfl ?_
        rintro _ _ ⟨rfl, rfl⟩
        refine l_l rfl rfl rfl ?_
        refine l_nil ?_
        refine c_seq ?_
        refine c_region ?_
        refine l_l rfl rfl rfl ?_
        refine l_l rfl rfl rfl ?_
        refine l_l rfl rfl rfl ?_
        refine l_l (light_fa rfl rfl) rfl rfl ?_
        refine l_x (x_storeTo (l' := cW bv bs (askU u)) 0 rfl rfl rfl rfl rfl rfl (by rw [cW_len hu]; simp only [List.length_cons, List.length_nil]; omega) (by have h9 : litU u = sigU u := sig_yes hu (by unfold anyU; simp_all); rw [h9]; exact putW_sig hu _)) rfl rfl ?_
        rintro _ _ ⟨rfl, rfl⟩
        try simp only [List.set_cons_zero, List.set_cons_succ]
        refine l_nil ?_
        refine c_seq ?_
        refine c_seq ?_
        refine c_region ?_
        refine l_l rfl rfl rfl ?_
        refine l_b rfl rfl rfl (fun h35 => ?_) (fun h35 => ?_)
        · refine l_l rfl rfl rfl ?_
          refine l_l rfl rfl rfl ?_
          refine l_l rfl rfl rfl ?_
          refine l_nil ?_
          refine c_cond rfl (fun h36 => ?_) (fun h36 => ?_)
          · refine c_seq ?_
            refine c_region ?_
            refine l_l rfl rfl rfl ?_
            refine l_nil ?_
            refine c_ret ?_
            exact l_end (fun _ _ => rets_v rfl) (List.Sublist.refl _) ⟨congrArg _ (by unfold askV; rw [← sig_yes hu (by unfold anyU; simp_all)]; simp_all), rfl⟩
          · refine c_skip ?_
            refine c_seq ?_
            refine c_region ?_
            refine l_l rfl rfl rfl ?_
            refine l_nil ?_
            refine c_ret ?_
            exact l_end (fun _ _ => rets_v rfl) (List.Sublist.refl _) ⟨congrArg _ (by unfold askV; rw [← sig_yes hu (by unfold anyU; simp_all)]; simp_all), rfl⟩
        · refine l_p rfl rfl ?_
          refine l_p rfl rfl ?_
          refine l_l rfl rfl rfl ?_
          refine l_nil ?_
          refine c_false rfl ?_
          refine c_skip ?_
          refine c_seq ?_
          refine c_region ?_
          refine l_l rfl rfl rfl ?_
          refine l_nil ?_
          refine c_ret ?_
          exact l_end (fun _ _ => rets_v rfl) (List.Sublist.refl _) ⟨congrArg _ (by unfold askV; rw [← sig_yes hu (by unfold anyU; simp_all)]; simp_all), rfl⟩
      · refine d_light rfl rfl rfl rfl rfl ?_
        refine d_x rfl (x_val call_67 rfl (fun w hw => bit_fn _ _ (hu.look 1) ⟨by decide, by decide⟩ w)) rfl rfl (by intro h; cases h) ?_
        rintro _ _ ⟨rfl, rfl⟩
        refine d_light rfl rfl rfl rfl rfl ?_
        refine d_bool rfl rfl rfl rfl (fun h37 => ?_) (fun h37 => ?_)
        · refine d_light rfl rfl rfl rfl rfl ?_
          refine d_light rfl rfl rfl rfl rfl ?_
          refine d_light rfl rfl rfl rfl rfl ?_
          refine d_light rfl rfl rfl rfl rfl ?_
          refine d_bool rfl rfl rfl rfl (fun h38 => ?_) (fun h38 => ?_)
          · refine d_pass rfl rfl rfl ?_
            refine d_passH rfl rfl rfl ?_
            refine d_pass rfl rfl rfl ?_
            refine d_pass rfl rfl rfl ?_
            refine d_pass rfl rfl rfl ?_
            refine d_pass rfl rfl rfl ?_
            refine d_pass rfl rfl rfl ?_
            refine d_light rfl rfl rfl rfl rfl ?_
            refine d_light rfl rfl rfl rfl rfl ?_
            refine d_nil ?_
            refine c_seq ?_
            refine c_region ?_
            refine l_l rfl rfl rfl ?_
            refine l_l rfl rfl rfl ?_
            refine l_l rfl rfl rfl ?_
            refine l_x (x_val call_48 rfl (fun w hw => on_fn b bv bs u hu w (RRow.of hw (by repeat (first | exact .head _ | refine .tail _ ?_ | refine List.mem_append_right _ ?_)) (by repeat (first | exact .head _ | refine .tail _ ?_ | refine List.mem_append_right _ ?_)) (by repeat (first | exact .head _ | refine .tail _ ?_ | refine List.mem_append_right _ ?_))))) rfl rfl ?_
            rintro _ _ ⟨rfl, rfl⟩
            refine l_l rfl rfl rfl ?_
            refine l_l rfl rfl rfl ?_
            refine l_nil ?_
            refine c_seq ?_
            refine c_region ?_
            refine l_l rfl rfl rfl ?_
            refine l_l rfl rfl rfl ?_
            refine l_l (light_fa rfl rfl) rfl rfl ?_
            refine l_x (x_load rfl rfl (at_own (by repeat (first | exact .head _ | refine .tail _ ?_ | refine List.mem_append_right _ ?_)) (cW_sig hu))) rfl rfl ?_
            rintro _ _ ⟨rfl, rfl⟩
            refine l_l rfl rfl rfl ?_
            refine l_nil ?_
            refine c_seq ?_
            refine c_region ?_
            refine l_l rfl rfl rfl ?_
            refine l_l rfl rfl rfl ?_
            refine l_l rfl rfl rfl ?_
            refine l_l (light_fa rfl rfl) rfl rfl ?_
            refine l_x (x_storeTo (l' := cW bv bs (askU u)) 0 rfl rfl rfl rfl rfl rfl (by rw [cW_len hu]; simp only [List.length_cons, List.length_nil]; omega) (by have h9 : litU u = sigU u := sig_yes hu (by unfold anyU; simp_all); rw [h9]; exact putW_sig hu _)) rfl rfl ?_
            rintro _ _ ⟨rfl, rfl⟩
            try simp only [List.set_cons_zero, List.set_cons_succ]
            refine l_nil ?_
            refine c_seq ?_
            refine c_seq ?_
            refine c_region ?_
            refine l_l rfl rfl rfl ?_
            refine l_b rfl rfl rfl (fun h39 => ?_) (fun h39 => ?_)
            · refine l_l rfl rfl rfl ?_
              refine l_l rfl rfl rfl ?_
              refine l_l rfl rfl rfl ?_
              refine l_nil ?_
              refine c_cond rfl (fun h40 => ?_) (fun h40 => ?_)
              · refine c_seq ?_
                refine c_region ?_
                refine l_l rfl rfl rfl ?_
                refine l_nil ?_
                refine c_ret ?_
                exact l_end (fun _ _ => rets_v rfl) (List.Sublist.refl _) ⟨congrArg _ (by unfold askV; rw [← sig_yes hu (by unfold anyU; simp_all)]; simp_all), rfl⟩
              · refine c_skip ?_
                refine c_seq ?_
                refine c_region ?_
                refine l_l rfl rfl rfl ?_
                refine l_nil ?_
                refine c_ret ?_
                exact l_end (fun _ _ => rets_v rfl) (List.Sublist.refl _) ⟨congrArg _ (by unfold askV; rw [← sig_yes hu (by unfold anyU; simp_all)]; simp_all), rfl⟩
            · refine l_p rfl rfl ?_
              refine l_p rfl rfl ?_
              refine l_l rfl rfl rfl ?_
              refine l_nil ?_
              refine c_false rfl ?_
              refine c_skip ?_
              refine c_seq ?_
              refine c_region ?_
              refine l_l rfl rfl rfl ?_
              refine l_nil ?_
              refine c_ret ?_
              exact l_end (fun _ _ => rets_v rfl) (List.Sublist.refl _) ⟨congrArg _ (by unfold askV; rw [← sig_yes hu (by unfold anyU; simp_all)]; simp_all), rfl⟩
          · refine d_light rfl rfl rfl rfl rfl ?_
            refine d_x rfl (x_val call_67 rfl (fun w hw => bit_fn _ _ (hu.look 1) ⟨by decide, by decide⟩ w)) rfl rfl (by intro h; cases h) ?_
            rintro _ _ ⟨rfl, rfl⟩
            refine d_light rfl rfl rfl rfl rfl ?_
            refine d_bool rfl rfl rfl rfl (fun h41 => ?_) (fun h41 => ?_)
            · refine d_light rfl rfl rfl rfl rfl ?_
              refine d_light rfl rfl rfl rfl rfl ?_
              refine d_light rfl rfl rfl rfl rfl ?_
              refine d_light rfl rfl rfl rfl rfl ?_
              refine d_light rfl rfl rfl rfl rfl ?_
              refine d_nil ?_
              refine c_seq ?_
              refine c_region ?_
              refine l_l rfl rfl rfl ?_
              refine l_b rfl rfl rfl (fun h42 => ?_) (fun h42 => ?_)
              · refine l_l rfl rfl rfl ?_
                refine l_x (x_val call_48 rfl (fun w hw => on_fn b bv bs u hu w (RRow.of hw (by repeat (first | exact .head _ | refine .tail _ ?_ | refine List.mem_append_right _ ?_)) (by repeat (first | exact .head _ | refine .tail _ ?_ | refine List.mem_append_right _ ?_)) (by repeat (first | exact .head _ | refine .tail _ ?_ | refine List.mem_append_right _ ?_))))) rfl rfl ?_
                rintro _ _ ⟨rfl, rfl⟩
                refine l_l rfl rfl rfl ?_
                refine l_l rfl rfl rfl ?_
                refine l_nil ?_
                refine c_seq ?_
                refine c_region ?_
                refine l_l rfl rfl rfl ?_
                refine l_l rfl rfl rfl ?_
                refine l_l (light_fa rfl rfl) rfl rfl ?_
                refine l_x (x_load rfl rfl (at_own (by repeat (first | exact .head _ | refine .tail _ ?_ | refine List.mem_append_right _ ?_)) (cW_sig hu))) rfl rfl ?_
                rintro _ _ ⟨rfl, rfl⟩
                refine l_l rfl rfl rfl ?_
                refine l_nil ?_
                refine c_seq ?_
                refine c_region ?_
                refine l_l rfl rfl rfl ?_
                refine l_l rfl rfl rfl ?_
                refine l_l rfl rfl rfl ?_
                refine l_l (light_fa rfl rfl) rfl rfl ?_
                refine l_x (x_storeTo (l' := cW bv bs (askU u)) 0 rfl rfl rfl rfl rfl rfl (by rw [cW_len hu]; simp only [List.length_cons, List.length_nil]; omega) (by have h9 : litU u = sigU u := sig_yes hu (by unfold anyU; simp_all); rw [h9]; exact putW_sig hu _)) rfl rfl ?_
                rintro _ _ ⟨rfl, rfl⟩
                try simp only [List.set_cons_zero, List.set_cons_succ]
                refine l_nil ?_
                refine c_seq ?_
                refine c_seq ?_
                refine c_region ?_
                refine l_l rfl rfl rfl ?_
                refine l_b rfl rfl rfl (fun h43 => ?_) (fun h43 => ?_)
                · refine l_l rfl rfl rfl ?_
                  refine l_l rfl rfl rfl ?_
                  refine l_l rfl rfl rfl ?_
                  refine l_nil ?_
                  refine c_cond rfl (fun h44 => ?_) (fun h44 => ?_)
                  · refine c_seq ?_
                    refine c_region ?_
                    refine l_l rfl rfl rfl ?_
                    refine l_nil ?_
                    refine c_ret ?_
                    exact l_end (fun _ _ => rets_v rfl) (List.Sublist.refl _) ⟨congrArg _ (by unfold askV; rw [← sig_yes hu (by unfold anyU; simp_all)]; simp_all), rfl⟩
                  · refine c_skip ?_
                    refine c_seq ?_
                    refine c_region ?_
                    refine l_l rfl rfl rfl ?_
                    refine l_nil ?_
                    refine c_ret ?_
                    exact l_end (fun _ _ => rets_v rfl) (List.Sublist.refl _) ⟨congrArg _ (by unfold askV; rw [← sig_yes hu (by unfold anyU; simp_all)]; simp_all), rfl⟩
                · refine l_p rfl rfl ?_
                  refine l_p rfl rfl ?_
                  refine l_l rfl rfl rfl ?_
                  refine l_nil ?_
                  refine c_false rfl ?_
                  refine c_skip ?_
                  refine c_seq ?_
                  refine c_region ?_
                  refine l_l rfl rfl rfl ?_
                  refine l_nil ?_
                  refine c_ret ?_
                  exact l_end (fun _ _ => rets_v rfl) (List.Sublist.refl _) ⟨congrArg _ (by unfold askV; rw [← sig_yes hu (by unfold anyU; simp_all)]; simp_all), rfl⟩
              · refine l_p rfl rfl ?_
                refine l_p rfl rfl ?_
                refine l_l rfl rfl rfl ?_
                refine l_l rfl rfl rfl ?_
                refine l_nil ?_
                refine c_seq ?_
                refine c_region ?_
                refine l_l rfl rfl rfl ?_
                refine l_l rfl rfl rfl ?_
                refine l_l (light_fa rfl rfl) rfl rfl ?_
                refine l_x (x_load rfl rfl (at_own (by repeat (first | exact .head _ | refine .tail _ ?_ | refine List.mem_append_right _ ?_)) (cW_sig hu))) rfl rfl ?_
                rintro _ _ ⟨rfl, rfl⟩
                refine l_l rfl rfl rfl ?_
                refine l_nil ?_
                refine c_seq ?_
                refine c_region ?_
                refine l_l rfl rfl rfl ?_
                refine l_l rfl rfl rfl ?_
                refine l_l rfl rfl rfl ?_
                refine l_l (light_fa rfl rfl) rfl rfl ?_
                refine l_x (x_storeTo (l' := cW bv bs (askU u)) 0 rfl rfl rfl rfl rfl rfl (by rw [cW_len hu]; simp only [List.length_cons, List.length_nil]; omega) (by have h9 : false = sigU u := sig_no hu (by unfold anyU; simp_all); rw [h9]; exact putW_sig hu _)) rfl rfl ?_
                rintro _ _ ⟨rfl, rfl⟩
                try simp only [List.set_cons_zero, List.set_cons_succ]
                refine l_nil ?_
                refine c_seq ?_
                refine c_seq ?_
                refine c_region ?_
                refine l_l rfl rfl rfl ?_
                refine l_l rfl rfl rfl ?_
                refine l_p rfl rfl ?_
                refine l_p rfl rfl ?_
                refine l_l rfl rfl rfl ?_
                refine l_nil ?_
                refine c_false rfl ?_
                refine c_skip ?_
                refine c_seq ?_
                refine c_region ?_
                refine l_l rfl rfl rfl ?_
                refine l_nil ?_
                refine c_ret ?_
                exact l_end (fun _ _ => rets_v rfl) (List.Sublist.refl _) ⟨congrArg _ (by unfold askV; rw [← sig_no hu (by unfold anyU; simp_all)]; simp_all), rfl⟩
            · refine d_pass rfl rfl rfl ?_
              refine d_pass rfl rfl rfl ?_
              refine d_light rfl rfl rfl rfl rfl ?_
              refine d_light rfl rfl rfl rfl rfl ?_
              refine d_light rfl rfl rfl rfl rfl ?_
              refine d_nil ?_
              refine c_seq ?_
              refine c_region ?_
              refine l_l rfl rfl rfl ?_
              refine l_l rfl rfl rfl ?_
              refine l_p rfl rfl ?_
              refine l_p rfl rfl ?_
              refine l_l rfl rfl rfl ?_
              refine l_l rfl rfl rfl ?_
              refine l_nil ?_
              refine c_seq ?_
              refine c_region ?_
              refine l_l rfl rfl rfl ?_
              refine l_l rfl rfl rfl ?_
              refine l_l (light_fa rfl rfl) rfl rfl ?_
              refine l_x (x_load rfl rfl (at_own (by repeat (first | exact .head _ | refine .tail _ ?_ | refine List.mem_append_right _ ?_)) (cW_sig hu))) rfl rfl ?_
              rintro _ _ ⟨rfl, rfl⟩
              refine l_l rfl rfl rfl ?_
              refine l_nil ?_
              refine c_seq ?_
              refine c_region ?_
              refine l_l rfl rfl rfl ?_
              refine l_l rfl rfl rfl ?_
              refine l_l rfl rfl rfl ?_
              refine l_l (light_fa rfl rfl) rfl rfl ?_
              refine l_x (x_storeTo (l' := cW bv bs (askU u)) 0 rfl rfl rfl rfl rfl rfl (by rw [cW_len hu]; simp only [List.length_cons, List.length_nil]; omega) (by have h9 : false = sigU u := sig_no hu (by unfold anyU; simp_all); rw [h9]; exact putW_sig hu _)) rfl rfl ?_
              rintro _ _ ⟨rfl, rfl⟩
              try simp only [List.set_cons_zero, List.set_cons_succ]
              refine l_nil ?_
              refine c_seq ?_
              refine c_seq ?_
              refine c_region ?_
              refine l_l rfl rfl rfl ?_
              refine l_l rfl rfl rfl ?_
              refine l_p rfl rfl ?_
              refine l_p rfl rfl ?_
              refine l_l rfl rfl rfl ?_
              refine l_nil ?_
              refine c_false rfl ?_
              refine c_skip ?_
              refine c_seq ?_
              refine c_region ?_
              refine l_l rfl rfl rfl ?_
              refine l_nil ?_
              refine c_ret ?_
              exact l_end (fun _ _ => rets_v rfl) (List.Sublist.refl _) ⟨congrArg _ (by unfold askV; rw [← sig_no hu (by unfold anyU; simp_all)]; simp_all), rfl⟩
        · refine d_pass rfl rfl rfl ?_
          refine d_pass rfl rfl rfl ?_
          refine d_light rfl rfl rfl rfl rfl ?_
          refine d_light rfl rfl rfl rfl rfl ?_
          refine d_light rfl rfl rfl rfl rfl ?_
          refine d_light rfl rfl rfl rfl rfl ?_
          refine d_x rfl (x_val call_67 rfl (fun w hw => bit_fn _ _ (hu.look 1) ⟨by decide, by decide⟩ w)) rfl rfl (by intro h; cases h) ?_
          rintro _ _ ⟨rfl, rfl⟩
          refine d_light rfl rfl rfl rfl rfl ?_
          refine d_bool rfl rfl rfl rfl (fun h45 => ?_) (fun h45 => ?_)
          · refine d_light rfl rfl rfl rfl rfl ?_
            refine d_light rfl rfl rfl rfl rfl ?_
            refine d_light rfl rfl rfl rfl rfl ?_
            refine d_light rfl rfl rfl rfl rfl ?_
            refine d_light rfl rfl rfl rfl rfl ?_
            refine d_nil ?_
            refine c_seq ?_
            refine c_region ?_
            refine l_l rfl rfl rfl ?_
            refine l_b rfl rfl rfl (fun h46 => ?_) (fun h46 => ?_)
            · refine l_l rfl rfl rfl ?_
              refine l_x (x_val call_48 rfl (fun w hw => on_fn b bv bs u hu w (RRow.of hw (by repeat (first | exact .head _ | refine .tail _ ?_ | refine List.mem_append_right _ ?_)) (by repeat (first | exact .head _ | refine .tail _ ?_ | refine List.mem_append_right _ ?_)) (by repeat (first | exact .head _ | refine .tail _ ?_ | refine List.mem_append_right _ ?_))))) rfl rfl ?_
              rintro _ _ ⟨rfl, rfl⟩
              refine l_l rfl rfl rfl ?_
              refine l_l rfl rfl rfl ?_
              refine l_nil ?_
              refine c_seq ?_
              refine c_region ?_
              refine l_l rfl rfl rfl ?_
              refine l_l rfl rfl rfl ?_
              refine l_l (light_fa rfl rfl) rfl rfl ?_
              refine l_x (x_load rfl rfl (at_own (by repeat (first | exact .head _ | refine .tail _ ?_ | refine List.mem_append_right _ ?_)) (cW_sig hu))) rfl rfl ?_
              rintro _ _ ⟨rfl, rfl⟩
              refine l_l rfl rfl rfl ?_
              refine l_nil ?_
              refine c_seq ?_
              refine c_region ?_
              refine l_l rfl rfl rfl ?_
              refine l_l rfl rfl rfl ?_
              refine l_l rfl rfl rfl ?_
              refine l_l (light_fa rfl rfl) rfl rfl ?_
              refine l_x (x_storeTo (l' := cW bv bs (askU u)) 0 rfl rfl rfl rfl rfl rfl (by rw [cW_len hu]; simp only [List.length_cons, List.length_nil]; omega) (by have h9 : litU u = sigU u := sig_yes hu (by unfold anyU; simp_all); rw [h9]; exact putW_sig hu _)) rfl rfl ?_
              rintro _ _ ⟨rfl, rfl⟩
              try simp only [List.set_cons_zero, List.set_cons_succ]
              refine l_nil ?_
              refine c_seq ?_
              refine c_seq ?_
              refine c_region ?_
              refine l_l rfl rfl rfl ?_
              refine l_b rfl rfl rfl (fun h47 => ?_) (fun h47 => ?_)
              · refine l_l rfl rfl rfl ?_
                refine l_l rfl rfl rfl ?_
                refine l_l rfl rfl rfl ?_
                refine l_nil ?_
                refine c_cond rfl (fun h48 => ?_) (fun h48 => ?_)
                · refine c_seq ?_
                  refine c_region ?_
                  refine l_l rfl rfl rfl ?_
                  refine l_nil ?_
                  refine c_ret ?_
                  exact l_end (fun _ _ => rets_v rfl) (List.Sublist.refl _) ⟨congrArg _ (by unfold askV; rw [← sig_yes hu (by unfold anyU; simp_all)]; simp_all), rfl⟩
                · refine c_skip ?_
                  refine c_seq ?_
                  refine c_region ?_
                  refine l_l rfl rfl rfl ?_
                  refine l_nil ?_
                  refine c_ret ?_
                  exact l_end (fun _ _ => rets_v rfl) (List.Sublist.refl _) ⟨congrArg _ (by unfold askV; rw [← sig_yes hu (by unfold anyU; simp_all)]; simp_all), rfl⟩
              · refine l_p rfl rfl ?_
                refine l_p rfl rfl ?_
                refine l_l rfl rfl rfl ?_
                refine l_nil ?_
                refine c_false rfl ?_
                refine c_skip ?_
                refine c_seq ?_
                refine c_region ?_
                refine l_l rfl rfl rfl ?_
                refine l_nil ?_
                refine c_ret ?_
                exact l_end (fun _ _ => rets_v rfl) (List.Sublist.refl _) ⟨congrArg _ (by unfold askV; rw [← sig_yes hu (by unfold anyU; simp_all)]; simp_all), rfl⟩
            · refine l_p rfl rfl ?_
              refine l_p rfl rfl ?_
              refine l_l rfl rfl rfl ?_
              refine l_l rfl rfl rfl ?_
              refine l_nil ?_
              refine c_seq ?_
              refine c_region ?_
              refine l_l rfl rfl rfl ?_
              refine l_l rfl rfl rfl ?_
              refine l_l (light_fa rfl rfl) rfl rfl ?_
              refine l_x (x_load rfl rfl (at_own (by repeat (first | exact .head _ | refine .tail _ ?_ | refine List.mem_append_right _ ?_)) (cW_sig hu))) rfl rfl ?_
              rintro _ _ ⟨rfl, rfl⟩
              refine l_l rfl rfl rfl ?_
              refine l_nil ?_
              refine c_seq ?_
              refine c_region ?_
              refine l_l rfl rfl rfl ?_
              refine l_l rfl rfl rfl ?_
              refine l_l rfl rfl rfl ?_
              refine l_l (light_fa rfl rfl) rfl rfl ?_
              refine l_x (x_storeTo (l' := cW bv bs (askU u)) 0 rfl rfl rfl rfl rfl rfl (by rw [cW_len hu]; simp only [List.length_cons, List.length_nil]; omega) (by have h9 : false = sigU u := sig_no hu (by unfold anyU; simp_all); rw [h9]; exact putW_sig hu _)) rfl rfl ?_
              rintro _ _ ⟨rfl, rfl⟩
              try simp only [List.set_cons_zero, List.set_cons_succ]
              refine l_nil ?_
              refine c_seq ?_
              refine c_seq ?_
              refine c_region ?_
              refine l_l rfl rfl rfl ?_
              refine l_l rfl rfl rfl ?_
              refine l_p rfl rfl ?_
              refine l_p rfl rfl ?_
              refine l_l rfl rfl rfl ?_
              refine l_nil ?_
              refine c_false rfl ?_
              refine c_skip ?_
              refine c_seq ?_
              refine c_region ?_
              refine l_l rfl rfl rfl ?_
              refine l_nil ?_
              refine c_ret ?_
              exact l_end (fun _ _ => rets_v rfl) (List.Sublist.refl _) ⟨congrArg _ (by unfold askV; rw [← sig_no hu (by unfold anyU; simp_all)]; simp_all), rfl⟩
          · refine d_pass rfl rfl rfl ?_
            refine d_pass rfl rfl rfl ?_
            refine d_light rfl rfl rfl rfl rfl ?_
            refine d_light rfl rfl rfl rfl rfl ?_
            refine d_light rfl rfl rfl rfl rfl ?_
            refine d_nil ?_
            refine c_seq ?_
            refine c_region ?_
            refine l_l rfl rfl rfl ?_
            refine l_l rfl rfl rfl ?_
            refine l_p rfl rfl ?_
            refine l_p rfl rfl ?_
            refine l_l rfl rfl rfl ?_
            refine l_l rfl rfl rfl ?_
            refine l_nil ?_
            refine c_seq ?_
            refine c_region ?_
            refine l_l rfl rfl rfl ?_
            refine l_l rfl rfl rfl ?_
            refine l_l (light_fa rfl rfl) rfl rfl ?_
            refine l_x (x_load rfl rfl (at_own (by repeat (first | exact .head _ | refine .tail _ ?_ | refine List.mem_append_right _ ?_)) (cW_sig hu))) rfl rfl ?_
            rintro _ _ ⟨rfl, rfl⟩
            refine l_l rfl rfl rfl ?_
            refine l_nil ?_
            refine c_seq ?_
            refine c_region ?_
            refine l_l rfl rfl rfl ?_
            refine l_l rfl rfl rfl ?_
            refine l_l rfl rfl rfl ?_
            refine l_l (light_fa rfl rfl) rfl rfl ?_
            refine l_x (x_storeTo (l' := cW bv bs (askU u)) 0 rfl rfl rfl rfl rfl rfl (by rw [cW_len hu]; simp only [List.length_cons, List.length_nil]; omega) (by have h9 : false = sigU u := sig_no hu (by unfold anyU; simp_all); rw [h9]; exact putW_sig hu _)) rfl rfl ?_
            rintro _ _ ⟨rfl, rfl⟩
            try simp only [List.set_cons_zero, List.set_cons_succ]
            refine l_nil ?_
            refine c_seq ?_
            refine c_seq ?_
            refine c_region ?_
            refine l_l rfl rfl rfl ?_
            refine l_l rfl rfl rfl ?_
            refine l_p rfl rfl ?_
            refine l_p rfl rfl ?_
            refine l_l rfl rfl rfl ?_
            refine l_nil ?_
            refine c_false rfl ?_
            refine c_skip ?_
            refine c_seq ?_
            refine c_region ?_
            refine l_l rfl rfl rfl ?_
            refine l_nil ?_
            refine c_ret ?_
            exact l_end (fun _ _ => rets_v rfl) (List.Sublist.refl _) ⟨congrArg _ (by unfold askV; rw [← sig_no hu (by unfold anyU; simp_all)]; simp_all), rfl⟩
    · refine d_pass rfl rfl rfl ?_
      refine d_pass rfl rfl rfl ?_
      refine d_light rfl rfl rfl rfl rfl ?_
      refine d_light rfl rfl rfl rfl rfl ?_
      refine d_light rfl rfl rfl rfl rfl ?_
      refine d_light rfl rfl rfl rfl rfl ?_
      refine d_x rfl (x_val call_67 rfl (fun w hw => bit_fn _ _ (hu.look 1) ⟨by decide, by decide⟩ w)) rfl rfl (by intro h; cases h) ?_
      rintro _ _ ⟨rfl, rfl⟩
      refine d_light rfl rfl rfl rfl rfl ?_
      refine d_bool rfl rfl rfl rfl (fun h49 => ?_) (fun h49 => ?_)
      · refine d_light rfl rfl rfl rfl rfl ?_
        refine d_light rfl rfl rfl rfl rfl ?_
        refine d_light rfl rfl rfl rfl rfl ?_
        refine d_light rfl rfl rfl rfl rfl ?_
        refine d_bool rfl rfl rfl rfl (fun h50 => ?_) (fun h50 => ?_)
        · refine d_pass rfl rfl rfl ?_
          refine d_passH rfl rfl rfl ?_
          refine d_pass rfl rfl rfl ?_
          refine d_pass rfl rfl rfl ?_
          refine d_pass rfl rfl rfl ?_
          refine d_pass rfl rfl rfl ?_
          refine d_pass rfl rfl rfl ?_
          refine d_light rfl rfl rfl rfl rfl ?_
          refine d_light rfl rfl rfl rfl rfl ?_
          refine d_nil ?_
          refine c_seq ?_
          refine c_region ?_
          refine l_l rfl rfl rfl ?_
          refine l_l rfl rfl rfl ?_
          refine l_l rfl rfl rfl ?_
          refine l_x (x_val call_48 rfl (fun w hw => on_fn b bv bs u hu w (RRow.of hw (by repeat (first | exact .head _ | refine .tail _ ?_ | refine List.mem_append_right _ ?_)) (by repeat (first | exact .head _ | refine .tail _ ?_ | refine List.mem_append_right _ ?_)) (by repeat (first | exact .head _ | refine .tail _ ?_ | refine List.mem_append_right _ ?_))))) rfl rfl ?_
          rintro _ _ ⟨rfl, rfl⟩
          refine l_l rfl rfl rfl ?_
          refine l_l rfl rfl rfl ?_
          refine l_nil ?_
          refine c_seq ?_
          refine c_region ?_
          refine l_l rfl rfl rfl ?_
          refine l_l rfl rfl rfl ?_
          refine l_l (light_fa rfl rfl) rfl rfl ?_
          refine l_x (x_load rfl rfl (at_own (by repeat (first | exact .head _ | refine .tail _ ?_ | refine List.mem_append_right _ ?_)) (cW_sig hu))) rfl rfl ?_
          rintro _ _ ⟨rfl, rfl⟩
          refine l_l rfl rfl rfl ?_
          refine l_nil ?_
          refine c_seq ?_
          refine c_region ?_
          refine l_l rfl rfl rfl ?_
          refine l_l rfl rfl rfl ?_
          refine l_l rfl rfl rfl ?_
          refine l_l (light_fa rfl rfl) rfl rfl ?_
          refine l_x (x_storeTo (l' := cW bv bs (askU u)) 0 rfl rfl rfl rfl rfl rfl (by rw [cW_len hu]; simp only [List.length_cons, List.length_nil]; omega) (by have h9 : litU u = sigU u := sig_yes hu (by unfold anyU; simp_all); rw [h9]; exact putW_sig hu _)) rfl rfl ?_
          rintro _ _ ⟨rfl, rfl⟩
          try simp only [List.set_cons_zero, List.set_cons_succ]
          refine l_nil ?_
          refine c_seq ?_
          refine c_seq ?_
          refine c_region ?_
          refine l_l rfl rfl rfl ?_
          refine l_b rfl rfl rfl (fun h51 => ?_) (fun h51 => ?_)
          · refine l_l rfl rfl rfl ?_
            refine l_l rfl rfl rfl ?_
            refine l_l rfl rfl rfl ?_
            refine l_nil ?_
            refine c_cond rfl (fun h52 => ?_) (fun h52 => ?_)
            · refine c_seq ?_
              refine c_region ?_
              refine l_l rfl rfl rfl ?_
              refine l_nil ?_
              refine c_ret ?_
              exact l_end (fun _ _ => rets_v rfl) (List.Sublist.refl _) ⟨congrArg _ (by unfold askV; rw [← sig_yes hu (by unfold anyU; simp_all)]; simp_all), rfl⟩
            · refine c_skip ?_
              refine c_seq ?_
              refine c_region ?_
              refine l_l rfl rfl rfl ?_
              refine l_nil ?_
              refine c_ret ?_
              exact l_end (fun _ _ => rets_v rfl) (List.Sublist.refl _) ⟨congrArg _ (by unfold askV; rw [← sig_yes hu (by unfold anyU; simp_all)]; simp_all), rfl⟩
          · refine l_p rfl rfl ?_
            refine l_p rfl rfl ?_
            refine l_l rfl rfl rfl ?_
            refine l_nil ?_
            refine c_false rfl ?_
            refine c_skip ?_
            refine c_seq ?_
            refine c_region ?_
            refine l_l rfl rfl rfl ?_
            refine l_nil ?_
            refine c_ret ?_
            exact l_end (fun _ _ => rets_v rfl) (List.Sublist.refl _) ⟨congrArg _ (by unfold askV; rw [← sig_yes hu (by unfold anyU; simp_all)]; simp_all), rfl⟩
        · refine d_light rfl rfl rfl rfl rfl ?_
          refine d_x rfl (x_val call_67 rfl (fun w hw => bit_fn _ _ (hu.look 1) ⟨by decide, by decide⟩ w)) rfl rfl (by intro h; cases h) ?_
          rintro _ _ ⟨rfl, rfl⟩
          refine d_light rfl rfl rfl rfl rfl ?_
          refine d_bool rfl rfl rfl rfl (fun h53 => ?_) (fun h53 => ?_)
          · refine d_light rfl rfl rfl rfl rfl ?_
            refine d_light rfl rfl rfl rfl rfl ?_
            refine d_light rfl rfl rfl rfl rfl ?_
            refine d_light rfl rfl rfl rfl rfl ?_
            refine d_light rfl rfl rfl rfl rfl ?_
            refine d_nil ?_
            refine c_seq ?_
            refine c_region ?_
            refine l_l rfl rfl rfl ?_
            refine l_b rfl rfl rfl (fun h54 => ?_) (fun h54 => ?_)
            · refine l_l rfl rfl rfl ?_
              refine l_x (x_val call_48 rfl (fun w hw => on_fn b bv bs u hu w (RRow.of hw (by repeat (first | exact .head _ | refine .tail _ ?_ | refine List.mem_append_right _ ?_)) (by repeat (first | exact .head _ | refine .tail _ ?_ | refine List.mem_append_right _ ?_)) (by repeat (first | exact .head _ | refine .tail _ ?_ | refine List.mem_append_right _ ?_))))) rfl rfl ?_
              rintro _ _ ⟨rfl, rfl⟩
              refine l_l rfl rfl rfl ?_
              refine l_l rfl rfl rfl ?_
              refine l_nil ?_
              refine c_seq ?_
              refine c_region ?_
              refine l_l rfl rfl rfl ?_
              refine l_l rfl rfl rfl ?_
              refine l_l (light_fa rfl rfl) rfl rfl ?_
              refine l_x (x_load rfl rfl (at_own (by repeat (first | exact .head _ | refine .tail _ ?_ | refine List.mem_append_right _ ?_)) (cW_sig hu))) rfl rfl ?_
              rintro _ _ ⟨rfl, rfl⟩
              refine l_l rfl rfl rfl ?_
              refine l_nil ?_
              refine c_seq ?_
              refine c_region ?_
              refine l_l rfl rfl rfl ?_
              refine l_l rfl rfl rfl ?_
              refine l_l rfl rfl rfl ?_
              refine l_l (light_fa rfl rfl) rfl rfl ?_
              refine l_x (x_storeTo (l' := cW bv bs (askU u)) 0 rfl rfl rfl rfl rfl rfl (by rw [cW_len hu]; simp only [List.length_cons, List.length_nil]; omega) (by have h9 : litU u = sigU u := sig_yes hu (by unfold anyU; simp_all); rw [h9]; exact putW_sig hu _)) rfl rfl ?_
              rintro _ _ ⟨rfl, rfl⟩
              try simp only [List.set_cons_zero, List.set_cons_succ]
              refine l_nil ?_
              refine c_seq ?_
              refine c_seq ?_
              refine c_region ?_
              refine l_l rfl rfl rfl ?_
              refine l_b rfl rfl rfl (fun h55 => ?_) (fun h55 => ?_)
              · refine l_l rfl rfl rfl ?_
                refine l_l rfl rfl rfl ?_
                refine l_l rfl rfl rfl ?_
                refine l_nil ?_
                refine c_cond rfl (fun h56 => ?_) (fun h56 => ?_)
                · refine c_seq ?_
                  refine c_region ?_
                  refine l_l rfl rfl rfl ?_
                  refine l_nil ?_
                  refine c_ret ?_
                  exact l_end (fun _ _ => rets_v rfl) (List.Sublist.refl _) ⟨congrArg _ (by unfold askV; rw [← sig_yes hu (by unfold anyU; simp_all)]; simp_all), rfl⟩
                · refine c_skip ?_
                  refine c_seq ?_
                  refine c_region ?_
                  refine l_l rfl rfl rfl ?_
                  refine l_nil ?_
                  refine c_ret ?_
                  exact l_end (fun _ _ => rets_v rfl) (List.Sublist.refl _) ⟨congrArg _ (by unfold askV; rw [← sig_yes hu (by unfold anyU; simp_all)]; simp_all), rfl⟩
              · refine l_p rfl rfl ?_
                refine l_p rfl rfl ?_
                refine l_l rfl rfl rfl ?_
                refine l_nil ?_
                refine c_false rfl ?_
                refine c_skip ?_
                refine c_seq ?_
                refine c_region ?_
                refine l_l rfl rfl rfl ?_
                refine l_nil ?_
                refine c_ret ?_
                exact l_end (fun _ _ => rets_v rfl) (List.Sublist.refl _) ⟨congrArg _ (by unfold askV; rw [← sig_yes hu (by unfold anyU; simp_all)]; simp_all), rfl⟩
            · refine l_p rfl rfl ?_
              refine l_p rfl rfl ?_
              refine l_l rfl rfl rfl ?_
              refine l_l rfl rfl rfl ?_
              refine l_nil ?_
              refine c_seq ?_
              refine c_region ?_
              refine l_l rfl rfl rfl ?_
              refine l_l rfl rfl rfl ?_
              refine l_l (light_fa rfl rfl) rfl rfl ?_
              refine l_x (x_load rfl rfl (at_own (by repeat (first | exact .head _ | refine .tail _ ?_ | refine List.mem_append_right _ ?_)) (cW_sig hu))) rfl rfl ?_
              rintro _ _ ⟨rfl, rfl⟩
              refine l_l rfl rfl rfl ?_
              refine l_nil ?_
              refine c_seq ?_
              refine c_region ?_
              refine l_l rfl rfl rfl ?_
              refine l_l rfl rfl rfl ?_
              refine l_l rfl rfl rfl ?_
              refine l_l (light_fa rfl rfl) rfl rfl ?_
              refine l_x (x_storeTo (l' := cW bv bs (askU u)) 0 rfl rfl rfl rfl rfl rfl (by rw [cW_len hu]; simp only [List.length_cons, List.length_nil]; omega) (by have h9 : false = sigU u := sig_no hu (by unfold anyU; simp_all); rw [h9]; exact putW_sig hu _)) rfl rfl ?_
              rintro _ _ ⟨rfl, rfl⟩
              try simp only [List.set_cons_zero, List.set_cons_succ]
              refine l_nil ?_
              refine c_seq ?_
              refine c_seq ?_
              refine c_region ?_
              refine l_l rfl rfl rfl ?_
              refine l_l rfl rfl rfl ?_
              refine l_p rfl rfl ?_
              refine l_p rfl rfl ?_
              refine l_l rfl rfl rfl ?_
              refine l_nil ?_
              refine c_false rfl ?_
              refine c_skip ?_
              refine c_seq ?_
              refine c_region ?_
              refine l_l rfl rfl rfl ?_
              refine l_nil ?_
              refine c_ret ?_
              exact l_end (fun _ _ => rets_v rfl) (List.Sublist.refl _) ⟨congrArg _ (by unfold askV; rw [← sig_no hu (by unfold anyU; simp_all)]; simp_all), rfl⟩
          · refine d_pass rfl rfl rfl ?_
            refine d_pass rfl rfl rfl ?_
            refine d_light rfl rfl rfl rfl rfl ?_
            refine d_light rfl rfl rfl rfl rfl ?_
            refine d_light rfl rfl rfl rfl rfl ?_
            refine d_nil ?_
            refine c_seq ?_
            refine c_region ?_
            refine l_l rfl rfl rfl ?_
            refine l_l rfl rfl rfl ?_
            refine l_p rfl rfl ?_
            refine l_p rfl rfl ?_
            refine l_l rfl rfl rfl ?_
            refine l_l rfl rfl rfl ?_
            refine l_nil ?_
            refine c_seq ?_
            refine c_region ?_
            refine l_l rfl rfl rfl ?_
            refine l_l rfl rfl rfl ?_
            refine l_l (light_fa rfl rfl) rfl rfl ?_
            refine l_x (x_load rfl rfl (at_own (by repeat (first | exact .head _ | refine .tail _ ?_ | refine List.mem_append_right _ ?_)) (cW_sig hu))) rfl rfl ?_
            rintro _ _ ⟨rfl, rfl⟩
            refine l_l rfl rfl rfl ?_
            refine l_nil ?_
            refine c_seq ?_
            refine c_region ?_
            refine l_l rfl rfl rfl ?_
            refine l_l rfl rfl rfl ?_
            refine l_l rfl rfl rfl ?_
            refine l_l (light_fa rfl rfl) rfl rfl ?_
            refine l_x (x_storeTo (l' := cW bv bs (askU u)) 0 rfl rfl rfl rfl rfl rfl (by rw [cW_len hu]; simp only [List.length_cons, List.length_nil]; omega) (by have h9 : false = sigU u := sig_no hu (by unfold anyU; simp_all); rw [h9]; exact putW_sig hu _)) rfl rfl ?_
            rintro _ _ ⟨rfl, rfl⟩
            try simp only [List.set_cons_zero, List.set_cons_succ]
            refine l_nil ?_
            refine c_seq ?_
            refine c_seq ?_
            refine c_region ?_
            refine l_l rfl rfl rfl ?_
            refine l_l rfl rfl rfl ?_
            refine l_p rfl rfl ?_
            refine l_p rfl rfl ?_
            refine l_l rfl rfl rfl ?_
            refine l_nil ?_
            refine c_false rfl ?_
            refine c_skip ?_
            refine c_seq ?_
            refine c_region ?_
            refine l_l rfl rfl rfl ?_
            refine l_nil ?_
            refine c_ret ?_
            exact l_end (fun _ _ => rets_v rfl) (List.Sublist.refl _) ⟨congrArg _ (by unfold askV; rw [← sig_no hu (by unfold anyU; simp_all)]; simp_all), rfl⟩
      · refine d_pass rfl rfl rfl ?_
        refine d_pass rfl rfl rfl ?_
        refine d_light rfl rfl rfl rfl rfl ?_
        refine d_light rfl rfl rfl rfl rfl ?_
        refine d_light rfl rfl rfl rfl rfl ?_
        refine d_light rfl rfl rfl rfl rfl ?_
        refine d_x rfl (x_val call_67 rfl (fun w hw => bit_fn _ _ (hu.look 1) ⟨by decide, by decide⟩ w)) rfl rfl (by intro h; cases h) ?_
        rintro _ _ ⟨rfl, rfl⟩
        refine d_light rfl rfl rfl rfl rfl ?_
        refine d_bool rfl rfl rfl rfl (fun h57 => ?_) (fun h57 => ?_)
        · refine d_light rfl rfl rfl rfl rfl ?_
          refine d_light rfl rfl rfl rfl rfl ?_
          refine d_light rfl rfl rfl rfl rfl ?_
          refine d_light rfl rfl rfl rfl rfl ?_
          refine d_light rfl rfl rfl rfl rfl ?_
          refine d_nil ?_
          refine c_seq ?_
          refine c_region ?_
          refine l_l rfl rfl rfl ?_
          refine l_b rfl rfl rfl (fun h58 => ?_) (fun h58 => ?_)
          · refine l_l rfl rfl rfl ?_
            refine l_x (x_val call_48 rfl (fun w hw => on_fn b bv bs u hu w (RRow.of hw (by repeat (first | exact .head _ | refine .tail _ ?_ | refine List.mem_append_right _ ?_)) (by repeat (first | exact .head _ | refine .tail _ ?_ | refine List.mem_append_right _ ?_)) (by repeat (first | exact .head _ | refine .tail _ ?_ | refine List.mem_append_right _ ?_))))) rfl rfl ?_
            rintro _ _ ⟨rfl, rfl⟩
            refine l_l rfl rfl rfl ?_
            refine l_l rfl rfl rfl ?_
            refine l_nil ?_
            refine c_seq ?_
            refine c_region ?_
            refine l_l rfl rfl rfl ?_
            refine l_l rfl rfl rfl ?_
            refine l_l (light_fa rfl rfl) rfl rfl ?_
            refine l_x (x_load rfl rfl (at_own (by repeat (first | exact .head _ | refine .tail _ ?_ | refine List.mem_append_right _ ?_)) (cW_sig hu))) rfl rfl ?_
            rintro _ _ ⟨rfl, rfl⟩
            refine l_l rfl rfl rfl ?_
            refine l_nil ?_
            refine c_seq ?_
            refine c_region ?_
            refine l_l rfl rfl rfl ?_
            refine l_l rfl rfl rfl ?_
            refine l_l rfl rfl rfl ?_
            refine l_l (light_fa rfl rfl) rfl rfl ?_
            refine l_x (x_storeTo (l' := cW bv bs (askU u)) 0 rfl rfl rfl rfl rfl rfl (by rw [cW_len hu]; simp only [List.length_cons, List.length_nil]; omega) (by have h9 : litU u = sigU u := sig_yes hu (by unfold anyU; simp_all); rw [h9]; exact putW_sig hu _)) rfl rfl ?_
            rintro _ _ ⟨rfl, rfl⟩
            try simp only [List.set_cons_zero, List.set_cons_succ]
            refine l_nil ?_
            refine c_seq ?_
            refine c_seq ?_
            refine c_region ?_
            refine l_l rfl rfl rfl ?_
            refine l_b rfl rfl rfl (fun h59 => ?_) (fun h59 => ?_)
            · refine l_l rfl rfl rfl ?_
              refine l_l rfl rfl rfl ?_
              refine l_l rfl rfl rfl ?_
              refine l_nil ?_
              refine c_cond rfl (fun h60 => ?_) (fun h60 => ?_)
              · refine c_seq ?_
                refine c_region ?_
                refine l_l rfl rfl rfl ?_
                refine l_nil ?_
                refine c_ret ?_
                exact l_end (fun _ _ => rets_v rfl) (List.Sublist.refl _) ⟨congrArg _ (by unfold askV; rw [← sig_yes hu (by unfold anyU; simp_all)]; simp_all), rfl⟩
              · refine c_skip ?_
                refine c_seq ?_
                refine c_region ?_
                refine l_l rfl rfl rfl ?_
                refine l_nil ?_
                refine c_ret ?_
                exact l_end (fun _ _ => rets_v rfl) (List.Sublist.refl _) ⟨congrArg _ (by unfold askV; rw [← sig_yes hu (by unfold anyU; simp_all)]; simp_all), rfl⟩
            · refine l_p rfl rfl ?_
              refine l_p rfl rfl ?_
              refine l_l rfl rfl rfl ?_
              refine l_nil ?_
              refine c_false rfl ?_
              refine c_skip ?_
              refine c_seq ?_
              refine c_region ?_
              refine l_l rfl rfl rfl ?_
              refine l_nil ?_
              refine c_ret ?_
              exact l_end (fun _ _ => rets_v rfl) (List.Sublist.refl _) ⟨congrArg _ (by unfold askV; rw [← sig_yes hu (by unfold anyU; simp_all)]; simp_all), rfl⟩
          · refine l_p rfl rfl ?_
            refine l_p rfl rfl ?_
            refine l_l rfl rfl rfl ?_
            refine l_l rfl rfl rfl ?_
            refine l_nil ?_
            refine c_seq ?_
            refine c_region ?_
            refine l_l rfl rfl rfl ?_
            refine l_l rfl rfl rfl ?_
            refine l_l (light_fa rfl rfl) rfl rfl ?_
            refine l_x (x_load rfl rfl (at_own (by repeat (first | exact .head _ | refine .tail _ ?_ | refine List.mem_append_right _ ?_)) (cW_sig hu))) rfl rfl ?_
            rintro _ _ ⟨rfl, rfl⟩
            refine l_l rfl rfl rfl ?_
            refine l_nil ?_
            refine c_seq ?_
            refine c_region ?_
            refine l_l rfl rfl rfl ?_
            refine l_l rfl rfl rfl ?_
            refine l_l rfl rfl rfl ?_
            refine l_l (light_fa rfl rfl) rfl rfl ?_
            refine l_x (x_storeTo (l' := cW bv bs (askU u)) 0 rfl rfl rfl rfl rfl rfl (by rw [cW_len hu]; simp only [List.length_cons, List.length_nil]; omega) (by have h9 : false = sigU u := sig_no hu (by unfold anyU; simp_all); rw [h9]; exact putW_sig hu _)) rfl rfl ?_
            rintro _ _ ⟨rfl, rfl⟩
            try simp only [List.set_cons_zero, List.set_cons_succ]
            refine l_nil ?_
            refine c_seq ?_
            refine c_seq ?_
            refine c_region ?_
            refine l_l rfl rfl rfl ?_
            refine l_l rfl rfl rfl ?_
            refine l_p rfl rfl ?_
            refine l_p rfl rfl ?_
            refine l_l rfl rfl rfl ?_
            refine l_nil ?_
            refine c_false rfl ?_
            refine c_skip ?_
            refine c_seq ?_
            refine c_region ?_
            refine l_l rfl rfl rfl ?_
            refine l_nil ?_
            refine c_ret ?_
            exact l_end (fun _ _ => rets_v rfl) (List.Sublist.refl _) ⟨congrArg _ (by unfold askV; rw [← sig_no hu (by unfold anyU; simp_all)]; simp_all), rfl⟩
        · refine d_pass rfl rfl rfl ?_
          refine d_pass rfl rfl rfl ?_
          refine d_light rfl rfl rfl rfl rfl ?_
          refine d_light rfl rfl rfl rfl rfl ?_
          refine d_light rfl rfl rfl rfl rfl ?_
          refine d_nil ?_
          refine c_seq ?_
          refine c_region ?_
          refine l_l rfl rfl rfl ?_
          refine l_l rfl rfl rfl ?_
          refine l_p rfl rfl ?_
          refine l_p rfl rfl ?_
          refine l_l rfl rfl rfl ?_
          refine l_l rfl rfl rfl ?_
          refine l_nil ?_
          refine c_seq ?_
          refine c_region ?_
          refine l_l rfl rfl rfl ?_
          refine l_l rfl rfl rfl ?_
          refine l_l (light_fa rfl rfl) rfl rfl ?_
          refine l_x (x_load rfl rfl (at_own (by repeat (first | exact .head _ | refine .tail _ ?_ | refine List.mem_append_right _ ?_)) (cW_sig hu))) rfl rfl ?_
          rintro _ _ ⟨rfl, rfl⟩
          refine l_l rfl rfl rfl ?_
          refine l_nil ?_
          refine c_seq ?_
          refine c_region ?_
          refine l_l rfl rfl rfl ?_
          refine l_l rfl rfl rfl ?_
          refine l_l rfl rfl rfl ?_
          refine l_l (light_fa rfl rfl) rfl rfl ?_
          refine l_x (x_storeTo (l' := cW bv bs (askU u)) 0 rfl rfl rfl rfl rfl rfl (by rw [cW_len hu]; simp only [List.length_cons, List.length_nil]; omega) (by have h9 : false = sigU u := sig_no hu (by unfold anyU; simp_all); rw [h9]; exact putW_sig hu _)) rfl rfl ?_
          rintro _ _ ⟨rfl, rfl⟩
          try simp only [List.set_cons_zero, List.set_cons_succ]
          refine l_nil ?_
          refine c_seq ?_
          refine c_seq ?_
          refine c_region ?_
          refine l_l rfl rfl rfl ?_
          refine l_l rfl rfl rfl ?_
          refine l_p rfl rfl ?_
          refine l_p rfl rfl ?_
          refine l_l rfl rfl rfl ?_
          refine l_nil ?_
          refine c_false rfl ?_
          refine c_skip ?_
          refine c_seq ?_
          refine c_region ?_
          refine l_l rfl rfl rfl ?_
          refine l_nil ?_
          refine c_ret ?_
          exact l_end (fun _ _ => rets_v rfl) (List.Sublist.refl _) ⟨congrArg _ (by unfold askV; rw [← sig_no hu (by unfold anyU; simp_all)]; simp_all), rfl⟩

end Go.Proofs.Ytjceoaomkbabmaa
