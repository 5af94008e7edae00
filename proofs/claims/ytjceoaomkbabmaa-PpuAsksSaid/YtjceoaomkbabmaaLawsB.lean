/- What the law of the pictures does. -/
import Derived.Test.YtjceoaomkbabmaaLawsA
import Derived.Test.YtjceoaomkbabmaaVwD
import Derived.Test.YtjceoaomkbabmaaCalls
namespace Go.Proofs.Ytjceoaomkbabmaa
open Go Go.VV Go.Proofs
set_option linter.unusedSimpArgs false
set_option linter.unusedVariables false
set_option maxRecDepth 100000
theorem frames_fn (x y : Int) (hx : 0 ≤ x ∧ x < 65536) (hy : 0 ≤ y ∧ y < 256) (w : World) : Does Try.prog 3 [.int .u16 x, .int .u8 y] w [] (fun v H => H = [] ∧ v = .bool true) := by
  have hcb := ctl_byte hy
  refine does_of Try.func3 rfl rfl rfl (St.refl w) ?_
  refine c_seq ?_
  refine c_region ?_
  refine l_l rfl rfl rfl ?_
  refine l_nil ?_
  refine c_seq ?_
  refine c_seq ?_
  refine c_region ?_
  refine l_x (x_val call_10 rfl (fun w hw => awake_fn w)) rfl rfl ?_
  rintro _ _ ⟨rfl, rfl⟩
  refine l_l rfl rfl rfl ?_
  refine l_nil ?_
  refine c_false rfl ?_
  refine c_skip ?_
  refine c_seq ?_
  refine c_region ?_
  refine l_x (x_call call_11 rfl (fun w hw => new_fn w)) rfl rfl ?_
  rintro _ _ ⟨G12, ⟨b, rfl, rfl⟩, rfl⟩
  refine l_l rfl rfl rfl ?_
  refine l_nil ?_
  refine c_seq ?_
  refine c_region ?_
  refine l_l rfl rfl rfl ?_
  refine l_l rfl rfl rfl ?_
  refine l_as (l_and rfl rfl) rfl rfl rfl ?_
  refine l_as (v := (.int .u8 (bor .u8 128 (band .u8 y 125)))) rfl rfl rfl rfl ?_
  refine l_x (x_callA call_12 rfl (fun w hw => write_fn b zeroU zeroU_wf w (St.lentA hw) 65344 _ (by decide) ⟨by omega, hcb.2⟩)) rfl rfl ?_
  rintro _ _ ⟨rfl, rfl⟩
  refine l_nil ?_
  refine c_seq ?_
  refine c_seq ?_
  refine c_region ?_
  refine l_l rfl rfl rfl ?_
  refine l_as (l_conv rfl rfl rfl) rfl rfl (by first | exact as_i64 (by omega) (by omega) | rfl) ?_
  refine l_as (rem_pos rfl rfl (by decide)) rfl rfl (by first | exact as_rem (by omega) | rfl) ?_
  refine l_l rfl rfl rfl ?_
  refine l_nil ?_
  refine c_block ?_
  refine c_loop (σ := Nat) [21, 22, 23, 24, 25] (fun i => [(21, .int .i64 i)]) (fun i => [(b, blk (cU (tickN i (onU (bor .u8 128 (band .u8 y 125))))) 60)]) (fun i => i ≤ (x % 3000).toNat) (fun i => (x % 3000).toNat - i) 0 ?_ ?_ ?_ ?_
  · exact Nat.zero_le _
  · exact .cons rfl .nil
  · exact fun _ h => h
  · rintro i y6 hi
    refine c_seq ?_
    refine c_region ?_
    refine l_l rfl rfl rfl ?_
    refine l_nil ?_
    refine c_seq ?_
    refine c_cond rfl (fun h1 => ?_) (fun h1 => ?_)
    · have h1n := by first | exact of_decide_eq_true h1 | exact of_decide_eq_false h1 | exact eq_of_beq h1 | exact ne_of_beq_false h1 | exact bne_t h1 | exact bne_f h1 | exact h1
      refine c_skip ?_
      refine c_seq ?_
      refine c_block ?_
      refine c_region ?_
      refine l_l rfl rfl rfl ?_
      refine l_x (x_callA call_13 rfl (fun w hw => tick_fn b (tickN i (onU (bor .u8 128 (band .u8 y 125)))) (tickN_ok (onU_ok ⟨by omega, by omega⟩) i) w (St.lentA hw))) rfl rfl ?_
      rintro _ _ ⟨rfl, rfl⟩
      refine l_nil ?_
      refine c_region ?_
      refine l_as (v := (.int .i64 ((i + 1 : Nat) : Int))) rfl rfl rfl (congrArg _ (succ_law (by omega))) ?_
      refine l_l rfl rfl rfl ?_
      refine l_nil ?_
      exact ⟨i + 1, by omega, by omega, .cons rfl .nil, (by repeat (first | exact Agree.refl _ _ | exact Agree.mix rfl | refine Agree.put rfl ?_ | refine Agree.keep rfl ?_)), fun _ h => h⟩
    · have h1n := by first | exact of_decide_eq_true h1 | exact of_decide_eq_false h1 | exact eq_of_beq h1 | exact ne_of_beq_false h1 | exact bne_t h1 | exact bne_f h1 | exact h1
      refine c_exit rfl ?_
      refine c_seq ?_
      have hi9 : i = (x % 3000).toNat := by omega
      clear hi
      obtain ⟨s, hs⟩ : ∃ s, s = tickN i (onU (bor .u8 128 (band .u8 y 125))) := ⟨_, rfl⟩
      have hok : s.Ok := hs ▸ tickN_ok (onU_ok ⟨by omega, by omega⟩) i
      have hlit : litU s = true := by rw [hs, lit_keep]; exact onU_lit hcb.1
      rw [← hs]
      refine c_region ?_
      refine l_l (light_array (l := [.int .i64 0, .int .i64 0, .int .i64 0, .int .i64 0]) (z := [.int .i64 0, .int .i64 0, .int .i64 0, .int .i64 0]) (ps := []) rfl (by kernel_rfl) rfl rfl) rfl rfl ?_
      refine l_x (x_alloc rfl) rfl rfl ?_
      rintro _ _ ⟨b6, rfl, rfl⟩
      refine l_x (by first | exact x_store 0 rfl rfl rfl rfl rfl rfl (by first | rfl | exact Nat.le_of_ble_eq_true rfl | (simp; done)) | exact x_store 1 rfl rfl rfl rfl rfl rfl (by first | rfl | exact Nat.le_of_ble_eq_true rfl | (simp; done)) | exact x_store 2 rfl rfl rfl rfl rfl rfl (by first | rfl | exact Nat.le_of_ble_eq_true rfl | (simp; done)) | exact x_store 3 rfl rfl rfl rfl rfl rfl (by first | rfl | exact Nat.le_of_ble_eq_true rfl | (simp; done))) rfl rfl ?_
      rintro _ _ ⟨rfl, rfl⟩
      refine l_nil ?_
      refine c_seq ?_
      refine c_region ?_
      refine l_l rfl rfl rfl ?_
      refine l_nil ?_
      refine c_seq ?_
      refine c_region ?_
      refine l_l rfl rfl rfl ?_
      refine l_x (x_val call_14 rfl (fun w hw => line_fnU b (s) hok.wf w (row_own (by repeat (first | exact .head _ | refine .tail _ ?_ | refine List.mem_append_right _ ?_)) w hw))) rfl rfl ?_
      rintro _ _ ⟨rfl, rfl⟩
      refine l_l rfl rfl rfl ?_
      refine l_x (x_val call_15 rfl (fun w hw => dot_fnU b (s) hok.wf w (row_own (by repeat (first | exact .head _ | refine .tail _ ?_ | refine List.mem_append_right _ ?_)) w hw))) rfl rfl ?_
      rintro _ _ ⟨rfl, rfl⟩
      refine l_l rfl rfl rfl ?_
      refine l_l rfl rfl rfl ?_
      refine l_nil ?_
      refine c_seq ?_
      refine c_seq ?_
      refine c_region ?_
      refine l_l rfl rfl rfl ?_
      refine l_nil ?_
      refine c_block ?_
      refine c_loop (σ := Nat) [7, 31, 32, 33, 34, 35, 36, 37, 38, 39, 40, 41, 42, 43, 44, 45] (fun i => [(7, .int .i64 (cntB s i)), (31, .int .i64 i)]) (fun i => [(b, blk (cU (tickN i s)) 60), (b6, blk (mC s i) 28)]) (fun i => i ≤ 17556) (fun i => 17556 - i) 0 ?_ ?_ ?_ ?_
      · exact Nat.zero_le _
      · exact .cons rfl (.cons rfl .nil)
      · exact fun _ h => h.perm (List.Perm.swap _ _ _)
      · rintro i y13 hi
        refine c_seq ?_
        refine c_region ?_
        refine l_l rfl rfl rfl ?_
        refine l_nil ?_
        refine c_seq ?_
        refine c_cond rfl (fun h2 => ?_) (fun h2 => ?_)
        · have h2n := by first | exact of_decide_eq_true h2 | exact of_decide_eq_false h2 | exact eq_of_beq h2 | exact ne_of_beq_false h2 | exact bne_t h2 | exact bne_f h2 | exact h2
          refine c_skip ?_
          refine c_seq ?_
          refine c_block ?_
          refine c_seq ?_
          refine c_seq ?_
          refine c_region ?_
          refine l_l rfl rfl rfl ?_
          refine l_x (x_callF (A := [(b, _)]) (G := [(b6, _)]) [b] call_13 rfl (by simp) (fun w hw => tick_fn b (tickN i s) (tickN_ok hok i) w (St.lentV hw))) rfl rfl ?_
          rintro _ _ ⟨_, ⟨rfl, rfl⟩, rfl⟩
          refine l_as (v := (.int .u8 (band .u8 (tickV (tickN i s)) 1))) rfl rfl rfl rfl ?_
          refine l_l rfl rfl rfl ?_
          refine l_nil ?_
          refine c_cond rfl (fun h3 => ?_) (fun h3 => ?_)
          · have h3n := by first | exact of_decide_eq_true h3 | exact of_decide_eq_false h3 | exact eq_of_beq h3 | exact ne_of_beq_false h3 | exact bne_t h3 | exact bne_f h3 | exact h3
            have hcb2 := cntB_le s i
            refine c_region ?_
            refine l_l rfl rfl rfl ?_
            refine l_as (v := (.int .i64 ((cntB s i : Int) + 1))) rfl rfl rfl (congrArg _ (wrap_i64 (by omega) (by omega))) ?_
            refine l_l rfl rfl rfl ?_
            refine l_nil ?_
            obtain ⟨m, hm⟩ : ∃ m : Nat, modeU (tickN (i + 1) s) = (m : Int) := ⟨_, (Int.toNat_of_nonneg (mode_range _).1).symm⟩
            have hm4 := mode_range (tickN (i + 1) s)
            have hcm := cntM_le m s i
            have hcb2 := cntB_le s i
            refine c_region ?_
            refine l_l rfl rfl rfl ?_
            refine l_x (x_val call_16 rfl (fun w hw => mode_fn b (tickN (i + 1) s) (tickN_ok hok _).wf w (row_own (by repeat (first | exact .head _ | refine .tail _ ?_ | refine List.mem_append_right _ ?_)) w hw))) rfl rfl ?_
            rintro _ _ ⟨rfl, rfl⟩
            rw [hm]
            refine l_l (idx_array1 m rfl rfl rfl rfl (by omega)) rfl rfl ?_
            refine l_x (x_load rfl rfl (at_own (by repeat (first | exact .head _ | refine .tail _ ?_ | refine List.mem_append_right _ ?_)) (by rw [Nat.zero_add]; exact mC_at s i (by omega)))) rfl rfl ?_
            rintro _ _ ⟨rfl, rfl⟩
            refine l_as (v := (.int .i64 ((cntM m s i : Int) + 1))) rfl rfl rfl (congrArg _ (wrap_i64 (by omega) (by omega))) ?_
            refine l_l (idx_array1 m rfl rfl rfl rfl (by omega)) rfl rfl ?_
            refine l_x (x_storeTo (l' := mC s (i + 1)) 1 rfl rfl rfl rfl rfl rfl (by simp [mC]; omega) (by rw [Nat.zero_add]; exact mC_put s i hm)) rfl rfl ?_
            rintro _ _ ⟨rfl, rfl⟩
            simp only [List.cons_append, List.nil_append, List.set_cons_zero, List.set_cons_succ]
            refine l_nil ?_
            refine c_region ?_
            refine l_as (v := (.int .i64 ((i + 1 : Nat) : Int))) rfl rfl rfl (congrArg _ (succ_law (by omega))) ?_
            refine l_l rfl rfl rfl ?_
            refine l_nil ?_
            exact ⟨i + 1, by omega, by omega, .cons (congrArg (Value.int .i64) (by rw [cntB_hit h3n]; rfl)) (.cons rfl .nil), (by repeat (first | exact Agree.refl _ _ | exact Agree.mix rfl | refine Agree.put rfl ?_ | refine Agree.keep rfl ?_)), fun _ h => h⟩
          · have h3n := by first | exact of_decide_eq_true h3 | exact of_decide_eq_false h3 | exact eq_of_beq h3 | exact ne_of_beq_false h3 | exact bne_t h3 | exact bne_f h3 | exact h3
            refine c_skip ?_
            obtain ⟨m, hm⟩ : ∃ m : Nat, modeU (tickN (i + 1) s) = (m : Int) := ⟨_, (Int.toNat_of_nonneg (mode_range _).1).symm⟩
            have hm4 := mode_range (tickN (i + 1) s)
            have hcm := cntM_le m s i
            have hcb2 := cntB_le s i
            refine c_region ?_
            refine l_l rfl rfl rfl ?_
            refine l_x (x_val call_16 rfl (fun w hw => mode_fn b (tickN (i + 1) s) (tickN_ok hok _).wf w (row_own (by repeat (first | exact .head _ | refine .tail _ ?_ | refine List.mem_append_right _ ?_)) w hw))) rfl rfl ?_
            rintro _ _ ⟨rfl, rfl⟩
            rw [hm]
            refine l_l (idx_array1 m rfl rfl rfl rfl (by omega)) rfl rfl ?_
            refine l_x (x_load rfl rfl (at_own (by repeat (first | exact .head _ | refine .tail _ ?_ | refine List.mem_append_right _ ?_)) (by rw [Nat.zero_add]; exact mC_at s i (by omega)))) rfl rfl ?_
            rintro _ _ ⟨rfl, rfl⟩
            refine l_as (v := (.int .i64 ((cntM m s i : Int) + 1))) rfl rfl rfl (congrArg _ (wrap_i64 (by omega) (by omega))) ?_
            refine l_l (idx_array1 m rfl rfl rfl rfl (by omega)) rfl rfl ?_
            refine l_x (x_storeTo (l' := mC s (i + 1)) 1 rfl rfl rfl rfl rfl rfl (by simp [mC]; omega) (by rw [Nat.zero_add]; exact mC_put s i hm)) rfl rfl ?_
            rintro _ _ ⟨rfl, rfl⟩
            simp only [List.cons_append, List.nil_append, List.set_cons_zero, List.set_cons_succ]
            refine l_nil ?_
            refine c_region ?_
            refine l_as (v := (.int .i64 ((i + 1 : Nat) : Int))) rfl rfl rfl (congrArg _ (succ_law (by omega))) ?_
            refine l_l rfl rfl rfl ?_
            refine l_nil ?_
            exact ⟨i + 1, by omega, by omega, .cons (congrArg (Value.int .i64) (by rw [cntB_miss h3n])) (.cons rfl .nil), (by repeat (first | exact Agree.refl _ _ | exact Agree.mix rfl | refine Agree.put rfl ?_ | refine Agree.keep rfl ?_)), fun _ h => h⟩
        · have h2n := by first | exact of_decide_eq_true h2 | exact of_decide_eq_false h2 | exact eq_of_beq h2 | exact ne_of_beq_false h2 | exact bne_t h2 | exact bne_f h2 | exact h2
          refine c_exit rfl ?_
          refine c_seq ?_
          obtain rfl : i = 17556 := by omega
          have hB9 := cntB_all hok hlit
          refine c_region ?_
          refine l_x (x_loadA rfl rfl rfl (row_own (by repeat (first | exact .head _ | refine .tail _ ?_ | refine List.mem_append_right _ ?_)))) rfl rfl ?_
          rintro _ _ ⟨rfl, rfl⟩
          refine l_l (light_array (l := ([7344, 1140, 2880, 6192] : List Int).map (.int .i64)) rfl rfl rfl (by kernel_rfl)) rfl rfl ?_
          refine l_x (x_eqa (xs := [7344, 1140, 2880, 6192]) (ys := [7344, 1140, 2880, 6192]) (kd := .i64) (b := true) (by rw [mC_all hok hlit]; rfl) rfl rfl rfl (by kernel_rfl) rfl rfl rfl) rfl rfl ?_
          rintro _ _ ⟨rfl, rfl⟩
          refine l_l rfl rfl rfl ?_
          refine l_l rfl rfl rfl ?_
          refine l_sure true rfl rfl rfl (by rw [hB9]; rfl) ?_
          refine l_l rfl rfl rfl ?_
          refine l_l rfl rfl rfl ?_
          refine l_l rfl rfl rfl ?_
          refine l_x (x_val call_14 rfl (fun w hw => line_fnU b (tickN 17556 s) (tickN_ok hok _).wf w (row_own (by repeat (first | exact .head _ | refine .tail _ ?_ | refine List.mem_append_right _ ?_)) w hw))) rfl rfl ?_
          rintro _ _ ⟨rfl, rfl⟩
          rw [(lap_same hok hlit).1]
          refine l_l rfl rfl rfl ?_
          refine l_sure true rfl rfl rfl (beq_self_eq_true _) ?_
          refine l_l rfl rfl rfl ?_
          refine l_l rfl rfl rfl ?_
          refine l_l rfl rfl rfl ?_
          refine l_x (x_val call_15 rfl (fun w hw => dot_fnU b (tickN 17556 s) (tickN_ok hok _).wf w (row_own (by repeat (first | exact .head _ | refine .tail _ ?_ | refine List.mem_append_right _ ?_)) w hw))) rfl rfl ?_
          rintro _ _ ⟨rfl, rfl⟩
          rw [(lap_same hok hlit).2]
          refine l_l rfl rfl rfl ?_
          refine l_sure true rfl rfl rfl (beq_self_eq_true _) ?_
          refine l_l rfl rfl rfl ?_
          refine l_l rfl rfl rfl ?_
          refine l_nil ?_
          refine c_ret ?_
          exact l_end (fun _ _ => rets_v rfl) (List.nil_sublist _) ⟨rfl, rfl⟩

end Go.Proofs.Ytjceoaomkbabmaa
