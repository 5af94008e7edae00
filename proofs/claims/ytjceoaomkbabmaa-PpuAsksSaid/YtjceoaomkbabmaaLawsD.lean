/- What the law of the signal does. -/
import Derived.Test.YtjceoaomkbabmaaLawsA
import Derived.Test.YtjceoaomkbabmaaAsks
import Derived.Test.YtjceoaomkbabmaaVwB
import Derived.Test.YtjceoaomkbabmaaCalls
namespace Go.Proofs.Ytjceoaomkbabmaa
open Go Go.VV Go.Proofs
set_option linter.unusedSimpArgs false
set_option linter.unusedVariables false
set_option maxRecDepth 100000
theorem asks_fn (l y : Int) (hl : 0 ≤ l ∧ l < 256) (hy : 0 ≤ y ∧ y < 256) (w : World) : Does Try.prog 4 [.int .u8 l, .int .u8 y] w [] (fun v H => H = [] ∧ v = .bool true) := by
  obtain ⟨hh, hh16, hhy, hg⟩ := asks_count hl hy 17556
  refine does_of Try.func4 rfl rfl rfl (St.refl w) ?_
  refine c_seq ?_
  refine c_region ?_
  refine l_l rfl rfl rfl ?_
  refine l_nil ?_
  refine c_seq ?_
  refine c_seq ?_
  refine c_region ?_
  refine l_x (x_val call_10 rfl (fun w hw => awake_fn w)) rfl rfl ?_
  rintro _ _ ⟨rfl, rfl⟩
  refine l_l rfl rfl rfl ?_
  refine l_nil ?_
  refine c_false rfl ?_
  refine c_skip ?_
  refine c_seq ?_
  refine c_region ?_
  refine l_x (x_call call_11 rfl (fun w hw => new_fn w)) rfl rfl ?_
  rintro _ _ ⟨G9, ⟨b, rfl, rfl⟩, rfl⟩
  refine l_l rfl rfl rfl ?_
  refine l_nil ?_
  refine c_seq ?_
  refine c_region ?_
  refine l_l rfl rfl rfl ?_
  refine l_l rfl rfl rfl ?_
  refine l_x (x_callA call_12 rfl (fun w hw => write_fn b zeroU zeroU_wf w (St.lentA hw) 65349 l (by decide) hl)) rfl rfl ?_
  rintro _ _ ⟨rfl, rfl⟩
  refine l_nil ?_
  refine c_seq ?_
  refine c_region ?_
  refine l_l rfl rfl rfl ?_
  refine l_l rfl rfl rfl ?_
  refine l_x (x_callA call_12 rfl (fun w hw => write_fn b (writeU zeroU 65349 l) (zeroU_ok.write hl).wf w (St.lentA hw) 65345 y (by decide) hy)) rfl rfl ?_
  rintro _ _ ⟨rfl, rfl⟩
  refine l_nil ?_
  refine c_seq ?_
  refine c_region ?_
  refine l_l rfl rfl rfl ?_
  refine l_x (x_callA call_12 rfl (fun w hw => write_fn b (writeU (writeU zeroU 65349 l) 65345 y) ((zeroU_ok.write hl).write hy).wf w (St.lentA hw) 65344 128 (by decide) (by decide))) rfl rfl ?_
  rintro _ _ ⟨rfl, rfl⟩
  rw [asks3]
  refine l_nil ?_
  refine c_seq ?_
  refine c_seq ?_
  refine c_region ?_
  refine l_l rfl rfl rfl ?_
  refine l_nil ?_
  refine c_block ?_
  refine c_loop (σ := Nat) [18, 19, 20, 21, 22] (fun i => [(18, .int .i64 i)]) (fun i => [(b, blk (cU (tickN i (asksS l (band .u8 y 120)))) 60)]) (fun i => i ≤ 17556) (fun i => 17556 - i) 0 ?_ ?_ ?_ ?_
  · exact Nat.zero_le _
  · exact .cons rfl .nil
  · exact fun _ h => h
  · rintro i y6 hi
    refine c_seq ?_
    refine c_region ?_
    refine l_l rfl rfl rfl ?_
    refine l_nil ?_
    refine c_seq ?_
    refine c_cond rfl (fun h1 => ?_) (fun h1 => ?_)
    · have h1n := by first | exact of_decide_eq_true h1 | exact of_decide_eq_false h1 | exact eq_of_beq h1 | exact ne_of_beq_false h1 | exact bne_t h1 | exact bne_f h1 | exact h1
      refine c_skip ?_
      refine c_seq ?_
      refine c_block ?_
      refine c_region ?_
      refine l_l rfl rfl rfl ?_
      refine l_x (x_callA call_13 rfl (fun w hw => tick_fn b (tickN i (asksS l (band .u8 y 120))) (tickN_ok (asks_ok hl hy) i) w (St.lentA hw))) rfl rfl ?_
      rintro _ _ ⟨rfl, rfl⟩
      refine l_nil ?_
      refine c_region ?_
      refine l_as (v := (.int .i64 ((i + 1 : Nat) : Int))) rfl rfl rfl (congrArg _ (succ_law (by omega))) ?_
      refine l_l rfl rfl rfl ?_
      refine l_nil ?_
      exact ⟨i + 1, by omega, by omega, .cons rfl .nil, (by repeat (first | exact Agree.refl _ _ | exact Agree.mix rfl | refine Agree.put rfl ?_ | refine Agree.keep rfl ?_)), fun _ h => h⟩
    · have h1n := by first | exact of_decide_eq_true h1 | exact of_decide_eq_false h1 | exact eq_of_beq h1 | exact ne_of_beq_false h1 | exact bne_t h1 | exact bne_f h1 | exact h1
      refine c_exit rfl ?_
      refine c_seq ?_
      obtain rfl : i = 17556 := by omega
      obtain ⟨s, hs⟩ : ∃ s, s = tickN 17556 (asksS l (band .u8 y 120)) := ⟨_, rfl⟩
      have hok : s.Ok := hs ▸ tickN_ok (asks_ok hl hy) _
      rw [← hs] at hg ⊢
      refine c_region ?_
      refine l_l rfl rfl rfl ?_
      refine l_nil ?_
      refine c_seq ?_
      refine c_seq ?_
      refine c_region ?_
      refine l_l rfl rfl rfl ?_
      refine l_nil ?_
      refine c_block ?_
      refine c_loop (σ := Nat) [6, 23, 24, 25, 26, 27, 28, 29, 30, 31] (fun i => [(6, .int .i64 (cntR s i)), (23, .int .i64 i)]) (fun i => [(b, blk (cU (tickN i s)) 60)]) (fun i => i ≤ 17556) (fun i => 17556 - i) 0 ?_ ?_ ?_ ?_
      · exact Nat.zero_le _
      · exact .cons rfl (.cons rfl .nil)
      · exact fun _ h => h
      · rintro i y13 hi
        refine c_seq ?_
        refine c_region ?_
        refine l_l rfl rfl rfl ?_
        refine l_nil ?_
        refine c_seq ?_
        refine c_cond rfl (fun h2 => ?_) (fun h2 => ?_)
        · have h2n := by first | exact of_decide_eq_true h2 | exact of_decide_eq_false h2 | exact eq_of_beq h2 | exact ne_of_beq_false h2 | exact bne_t h2 | exact bne_f h2 | exact h2
          refine c_skip ?_
          refine c_seq ?_
          refine c_block ?_
          refine c_seq ?_
          refine c_region ?_
          refine l_l rfl rfl rfl ?_
          refine l_x (x_callA call_13 rfl (fun w hw => tick_fn b (tickN i s) (tickN_ok hok i) w (St.lentA hw))) rfl rfl ?_
          rintro _ _ ⟨rfl, rfl⟩
          refine l_as (v := (.int .u8 (band .u8 (tickV (tickN i s)) 2))) rfl rfl rfl rfl ?_
          refine l_l rfl rfl rfl ?_
          refine l_nil ?_
          refine c_cond rfl (fun h3 => ?_) (fun h3 => ?_)
          · have h3n := by first | exact of_decide_eq_true h3 | exact of_decide_eq_false h3 | exact eq_of_beq h3 | exact ne_of_beq_false h3 | exact bne_t h3 | exact bne_f h3 | exact h3
            have hcb2 := cntR_le s i
            refine c_region ?_
            refine l_l rfl rfl rfl ?_
            refine l_as (v := (.int .i64 ((cntR s i : Int) + 1))) rfl rfl rfl (congrArg _ (wrap_i64 (by omega) (by omega))) ?_
            refine l_l rfl rfl rfl ?_
            refine l_nil ?_
            refine c_region ?_
            refine l_as (v := (.int .i64 ((i + 1 : Nat) : Int))) rfl rfl rfl (congrArg _ (succ_law (by omega))) ?_
            refine l_l rfl rfl rfl ?_
            refine l_nil ?_
            exact ⟨i + 1, by omega, by omega, .cons (congrArg (Value.int .i64) (by rw [cntR_hit h3n]; rfl)) (.cons rfl .nil), (by repeat (first | exact Agree.refl _ _ | exact Agree.mix rfl | refine Agree.put rfl ?_ | refine Agree.keep rfl ?_)), fun _ h => h⟩
          · have h3n := by first | exact of_decide_eq_true h3 | exact of_decide_eq_false h3 | exact eq_of_beq h3 | exact ne_of_beq_false h3 | exact bne_t h3 | exact bne_f h3 | exact h3
            refine c_skip ?_
            refine c_region ?_
            refine l_as (v := (.int .i64 ((i + 1 : Nat) : Int))) rfl rfl rfl (congrArg _ (succ_law (by omega))) ?_
            refine l_l rfl rfl rfl ?_
            refine l_nil ?_
            exact ⟨i + 1, by omega, by omega, .cons (congrArg (Value.int .i64) (by rw [cntR_miss h3n])) (.cons rfl .nil), (by repeat (first | exact Agree.refl _ _ | exact Agree.mix rfl | refine Agree.put rfl ?_ | refine Agree.keep rfl ?_)), fun _ h => h⟩
        · have h2n := by first | exact of_decide_eq_true h2 | exact of_decide_eq_false h2 | exact eq_of_beq h2 | exact ne_of_beq_false h2 | exact bne_t h2 | exact bne_f h2 | exact h2
          refine c_exit rfl ?_
          refine c_seq ?_
          refine c_seq ?_
          obtain rfl : i = 17556 := by omega
          obtain ⟨hg0, hg8, hg3, hg2, hgo⟩ := hg
          generalize cntR s 17556 = n at hg0 hg8 hg3 hg2 hgo ⊢
          refine c_region ?_
          refine l_l rfl rfl rfl ?_
          refine l_as (v := (.int .u8 (8 * (hh : Int)))) rfl rfl rfl (congrArg _ hhy) ?_
          refine l_nil ?_
          refine c_block ?_
          refine c_seq ?_
          refine c_region ?_
          refine l_l rfl rfl rfl ?_
          refine l_l rfl rfl rfl ?_
          refine l_nil ?_
          refine c_cond rfl (fun h4 => ?_) (fun h4 => ?_)
          · have h4n := by first | exact of_decide_eq_true h4 | exact of_decide_eq_false h4 | exact eq_of_beq h4 | exact ne_of_beq_false h4 | exact bne_t h4 | exact bne_f h4 | exact h4
            refine c_seq ?_
            refine c_region ?_
            refine l_l rfl rfl rfl ?_
            refine l_sure true rfl rfl rfl (beq_iff_eq.2 (by omega)) ?_
            refine l_l rfl rfl rfl ?_
            refine l_nil ?_
            refine c_ret ?_
            exact l_end (fun _ _ => rets_v rfl) (List.nil_sublist _) ⟨rfl, rfl⟩
          · have h4n := by first | exact of_decide_eq_true h4 | exact of_decide_eq_false h4 | exact eq_of_beq h4 | exact ne_of_beq_false h4 | exact bne_t h4 | exact bne_f h4 | exact h4
            refine c_seq ?_
            refine c_region ?_
            refine l_l rfl rfl rfl ?_
            refine l_l rfl rfl rfl ?_
            refine l_nil ?_
            refine c_cond rfl (fun h5 => ?_) (fun h5 => ?_)
            · have h5n := by first | exact of_decide_eq_true h5 | exact of_decide_eq_false h5 | exact eq_of_beq h5 | exact ne_of_beq_false h5 | exact bne_t h5 | exact bne_f h5 | exact h5
              refine c_seq ?_
              rcases (show l < 154 ∨ 154 ≤ l by omega) with hL | hL
              · refine c_region ?_
                refine l_l rfl rfl rfl ?_
                refine l_sure true rfl rfl rfl (beq_iff_eq.2 (by omega)) ?_
                refine l_l rfl rfl rfl ?_
                refine l_l rfl rfl rfl ?_
                refine l_sure true rfl rfl rfl (decide_eq_true (by omega)) ?_
                refine l_l rfl rfl rfl ?_
                refine l_l rfl rfl rfl ?_
                refine l_p rfl rfl ?_
                refine l_p rfl rfl ?_
                refine l_p rfl rfl ?_
                refine l_p rfl rfl ?_
                refine l_p rfl rfl ?_
                refine l_p rfl rfl ?_
                refine l_l rfl rfl rfl ?_
                refine l_l rfl rfl rfl ?_
                refine l_nil ?_
                refine c_ret ?_
                exact l_end (fun _ _ => rets_v rfl) (List.nil_sublist _) ⟨rfl, rfl⟩
              · refine c_region ?_
                refine l_l rfl rfl rfl ?_
                refine l_sure false rfl rfl rfl (beq_eq_false_iff_ne.2 (by omega)) ?_
                refine l_l rfl rfl rfl ?_
                refine l_p rfl rfl ?_
                refine l_p rfl rfl ?_
                refine l_l rfl rfl rfl ?_
                refine l_l rfl rfl rfl ?_
                refine l_l rfl rfl rfl ?_
                refine l_sure true rfl rfl rfl (beq_iff_eq.2 (by omega)) ?_
                refine l_l rfl rfl rfl ?_
                refine l_l rfl rfl rfl ?_
                refine l_sure true rfl rfl rfl (decide_eq_true (by omega)) ?_
                refine l_l rfl rfl rfl ?_
                refine l_l rfl rfl rfl ?_
                refine l_l rfl rfl rfl ?_
                refine l_nil ?_
                refine c_ret ?_
                exact l_end (fun _ _ => rets_v rfl) (List.nil_sublist _) ⟨rfl, rfl⟩
            · have h5n := by first | exact of_decide_eq_true h5 | exact of_decide_eq_false h5 | exact eq_of_beq h5 | exact ne_of_beq_false h5 | exact bne_t h5 | exact bne_f h5 | exact h5
              refine c_seq ?_
              refine c_seq ?_
              refine c_region ?_
              refine l_l rfl rfl rfl ?_
              refine l_l rfl rfl rfl ?_
              refine l_nil ?_
              refine c_cond rfl (fun h6 => ?_) (fun h6 => ?_)
              · have h6n := by first | exact of_decide_eq_true h6 | exact of_decide_eq_false h6 | exact eq_of_beq h6 | exact ne_of_beq_false h6 | exact bne_t h6 | exact bne_f h6 | exact h6
                refine c_skip ?_
                refine c_sure true rfl h6 ?_
                refine c_seq ?_
                refine c_region ?_
                refine l_l rfl rfl rfl ?_
                refine l_sure true rfl rfl rfl (beq_iff_eq.2 (by omega)) ?_
                refine l_l rfl rfl rfl ?_
                refine l_nil ?_
                refine c_ret ?_
                exact l_end (fun _ _ => rets_v rfl) (List.nil_sublist _) ⟨rfl, rfl⟩
              · have h6n := by first | exact of_decide_eq_true h6 | exact of_decide_eq_false h6 | exact eq_of_beq h6 | exact ne_of_beq_false h6 | exact bne_t h6 | exact bne_f h6 | exact h6
                refine c_region ?_
                refine l_l rfl rfl rfl ?_
                refine l_l rfl rfl rfl ?_
                refine l_nil ?_
                refine c_cond rfl (fun h7 => ?_) (fun h7 => ?_)
                · have h7n := by first | exact of_decide_eq_true h7 | exact of_decide_eq_false h7 | exact eq_of_beq h7 | exact ne_of_beq_false h7 | exact bne_t h7 | exact bne_f h7 | exact h7
                  refine c_seq ?_
                  refine c_region ?_
                  refine l_l rfl rfl rfl ?_
                  refine l_sure true rfl rfl rfl (beq_iff_eq.2 (by omega)) ?_
                  refine l_l rfl rfl rfl ?_
                  refine l_nil ?_
                  refine c_ret ?_
                  exact l_end (fun _ _ => rets_v rfl) (List.nil_sublist _) ⟨rfl, rfl⟩
                · have h7n := by first | exact of_decide_eq_true h7 | exact of_decide_eq_false h7 | exact eq_of_beq h7 | exact ne_of_beq_false h7 | exact bne_t h7 | exact bne_f h7 | exact h7
                  refine c_seq ?_
                  refine c_region ?_
                  refine l_l rfl rfl rfl ?_
                  refine l_l rfl rfl rfl ?_
                  refine l_nil ?_
                  refine c_cond rfl (fun h8 => ?_) (fun h8 => ?_)
                  · have h8n := by first | exact of_decide_eq_true h8 | exact of_decide_eq_false h8 | exact eq_of_beq h8 | exact ne_of_beq_false h8 | exact bne_t h8 | exact bne_f h8 | exact h8
                    refine c_seq ?_
                    refine c_region ?_
                    refine l_l rfl rfl rfl ?_
                    refine l_sure true rfl rfl rfl (beq_iff_eq.2 (by omega)) ?_
                    refine l_l rfl rfl rfl ?_
                    refine l_nil ?_
                    refine c_ret ?_
                    exact l_end (fun _ _ => rets_v rfl) (List.nil_sublist _) ⟨rfl, rfl⟩
                  · have h8n := by first | exact of_decide_eq_true h8 | exact of_decide_eq_false h8 | exact eq_of_beq h8 | exact ne_of_beq_false h8 | exact bne_t h8 | exact bne_f h8 | exact h8
                    refine c_seq ?_
                    refine c_region ?_
                    refine l_l rfl rfl rfl ?_
                    refine l_l rfl rfl rfl ?_
                    refine l_nil ?_
                    refine c_cond rfl (fun h9 => ?_) (fun h9 => ?_)
                    · have h9n := by first | exact of_decide_eq_true h9 | exact of_decide_eq_false h9 | exact eq_of_beq h9 | exact ne_of_beq_false h9 | exact bne_t h9 | exact bne_f h9 | exact h9
                      refine c_seq ?_
                      refine c_region ?_
                      refine l_l rfl rfl rfl ?_
                      refine l_sure true rfl rfl rfl (beq_iff_eq.2 (by omega)) ?_
                      refine l_l rfl rfl rfl ?_
                      refine l_nil ?_
                      refine c_ret ?_
                      exact l_end (fun _ _ => rets_v rfl) (List.nil_sublist _) ⟨rfl, rfl⟩
                    · have h9n := by first | exact of_decide_eq_true h9 | exact of_decide_eq_false h9 | exact eq_of_beq h9 | exact ne_of_beq_false h9 | exact bne_t h9 | exact bne_f h9 | exact h9
                      refine c_skip ?_
                      refine c_seq ?_
                      refine c_region ?_
                      refine l_l rfl rfl rfl ?_
                      refine l_sure true rfl rfl rfl (decide_eq_true (by omega)) ?_
                      refine l_l rfl rfl rfl ?_
                      refine l_l rfl rfl rfl ?_
                      refine l_sure true rfl rfl rfl (decide_eq_true (by omega)) ?_
                      refine l_l rfl rfl rfl ?_
                      refine l_l rfl rfl rfl ?_
                      refine l_nil ?_
                      refine c_ret ?_
                      exact l_end (fun _ _ => rets_v rfl) (List.nil_sublist _) ⟨rfl, rfl⟩

end Go.Proofs.Ytjceoaomkbabmaa
