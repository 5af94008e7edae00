/- What the laws of layer 15 do. -/
import Derived.Test.YtjceoaomkbabmaaUnitD
import Derived.Test.YtjceoaomkbabmaaLaps
import Derived.Test.YtjceoaomkbabmaaCalls
namespace Go.Proofs.Ytjceoaomkbabmaa
open Go Go.VV Go.Proofs
set_option linter.unusedSimpArgs false
set_option linter.unusedVariables false
set_option maxRecDepth 100000
theorem awake_fn (w : World) : Does Try.prog 10 [] w [] (fun v H => H = [] ∧ v = .bool true) := by
  refine does_of Try.func10 rfl rfl rfl (St.refl w) ?_
  refine c_seq ?_
  refine c_region ?_
  refine l_l rfl rfl rfl ?_
  refine l_nil ?_
  refine c_seq ?_
  refine c_region ?_
  refine l_x (x_call call_11 rfl (fun w hw => new_fn w)) rfl rfl ?_
  rintro _ _ ⟨G2, ⟨b, rfl, rfl⟩, rfl⟩
  refine l_l rfl rfl rfl ?_
  refine l_nil ?_
  refine c_seq ?_
  refine c_seq ?_
  refine c_region ?_
  refine l_l rfl rfl rfl ?_
  refine l_l rfl rfl rfl ?_
  refine l_nil ?_
  refine c_false rfl ?_
  refine c_skip ?_
  refine c_seq ?_
  refine c_region ?_
  refine l_l rfl rfl rfl ?_
  refine l_x (x_callA call_12 rfl (fun w hw => write_fn b zeroU zeroU_wf w (St.lentA hw) 65344 128 (by decide) (by decide))) rfl rfl ?_
  rintro _ _ ⟨rfl, rfl⟩
  refine l_nil ?_
  refine c_seq ?_
  refine c_seq ?_
  refine c_region ?_
  refine l_l rfl rfl rfl ?_
  refine l_nil ?_
  refine c_block ?_
  refine c_loop (σ := Nat) [7, 8, 9, 10, 11] (fun i => [(7, .int .i64 i)]) (fun i => [(b, blk (cU (tickN i (onU 128))) 60)]) (fun i => i ≤ 114) (fun i => 114 - i) 0 ?_ ?_ ?_ ?_
  · exact Nat.zero_le _
  · exact .cons rfl .nil
  · exact fun _ h => h
  · rintro i y6 hi
    refine c_seq ?_
    refine c_region ?_
    refine l_l rfl rfl rfl ?_
    refine l_nil ?_
    refine c_seq ?_
    refine c_cond rfl (fun h1 => ?_) (fun h1 => ?_)
    · have h1n := by first | exact of_decide_eq_true h1 | exact of_decide_eq_false h1 | exact eq_of_beq h1 | exact ne_of_beq_false h1 | exact bne_t h1 | exact bne_f h1 | exact h1
      refine c_skip ?_
      refine c_seq ?_
      refine c_block ?_
      refine c_region ?_
      refine l_l rfl rfl rfl ?_
      refine l_x (x_callA call_13 rfl (fun w hw => tick_fn b (tickN i (onU 128)) (tickN_ok (onU_ok (x := 128) (by decide)) i) w (St.lentA hw))) rfl rfl ?_
      rintro _ _ ⟨rfl, rfl⟩
      refine l_nil ?_
      refine c_region ?_
      refine l_as (v := (.int .i64 ((i + 1 : Nat) : Int))) rfl rfl rfl (congrArg _ (succ_law (by omega))) ?_
      refine l_l rfl rfl rfl ?_
      refine l_nil ?_
      exact ⟨i + 1, by omega, by omega, .cons rfl .nil, (by repeat (first | exact Agree.refl _ _ | exact Agree.mix rfl | refine Agree.put rfl ?_ | refine Agree.keep rfl ?_)), fun _ h => h⟩
    · have h1n := by first | exact of_decide_eq_true h1 | exact of_decide_eq_false h1 | exact eq_of_beq h1 | exact ne_of_beq_false h1 | exact bne_t h1 | exact bne_f h1 | exact h1
      refine c_exit rfl ?_
      refine c_seq ?_
      obtain rfl : i = 114 := by omega
      refine c_region ?_
      refine l_l rfl rfl rfl ?_
      refine l_x (x_val call_14 rfl (fun w hw => line_fnU b (tickN 114 (onU 128)) (tickN_ok (onU_ok (x := 128) (by decide)) _).wf w (row_own (by repeat (first | exact .head _ | refine .tail _ ?_ | refine List.mem_append_right _ ?_)) w hw))) rfl rfl ?_
      rintro _ _ ⟨rfl, rfl⟩
      rw [awake_line]
      refine l_sure true rfl rfl rfl rfl ?_
      refine l_l rfl rfl rfl ?_
      refine l_l rfl rfl rfl ?_
      refine l_x (x_val call_15 rfl (fun w hw => dot_fnU b (tickN 114 (onU 128)) (tickN_ok (onU_ok (x := 128) (by decide)) _).wf w (row_own (by repeat (first | exact .head _ | refine .tail _ ?_ | refine List.mem_append_right _ ?_)) w hw))) rfl rfl ?_
      rintro _ _ ⟨rfl, rfl⟩
      rw [awake_dot]
      refine l_sure true rfl rfl rfl rfl ?_
      refine l_l rfl rfl rfl ?_
      refine l_l rfl rfl rfl ?_
      refine l_l rfl rfl rfl ?_
      refine l_x (x_val call_16 rfl (fun w hw => mode_fn b (tickN 114 (onU 128)) (tickN_ok (onU_ok (x := 128) (by decide)) _).wf w (row_own (by repeat (first | exact .head _ | refine .tail _ ?_ | refine List.mem_append_right _ ?_)) w hw))) rfl rfl ?_
      rintro _ _ ⟨rfl, rfl⟩
      rw [awake_mode]
      refine l_sure true rfl rfl rfl rfl ?_
      refine l_l rfl rfl rfl ?_
      refine l_l rfl rfl rfl ?_
      refine l_l rfl rfl rfl ?_
      refine l_x (x_val call_17 rfl (fun w hw => read_fn b (tickN 114 (onU 128)) (tickN_ok (onU_ok (x := 128) (by decide)) _).wf w (row_own (by repeat (first | exact .head _ | refine .tail _ ?_ | refine List.mem_append_right _ ?_)) w hw) 65348 (by decide))) rfl rfl ?_
      rintro _ _ ⟨rfl, rfl⟩
      rw [awake_read]
      refine l_sure true rfl rfl rfl rfl ?_
      refine l_l rfl rfl rfl ?_
      refine l_l rfl rfl rfl ?_
      refine l_nil ?_
      refine c_ret ?_
      exact l_end (fun _ _ => rets_v rfl) (List.nil_sublist _) ⟨rfl, rfl⟩

end Go.Proofs.Ytjceoaomkbabmaa
