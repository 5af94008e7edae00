/- What the law of the modes does. -/
import Derived.Test.YtjceoaomkbabmaaLawsA
import Derived.Test.YtjceoaomkbabmaaShut
import Derived.Test.YtjceoaomkbabmaaCalls
namespace Go.Proofs.Ytjceoaomkbabmaa
open Go Go.VV Go.Proofs
set_option linter.unusedSimpArgs false
set_option linter.unusedVariables false
set_option maxRecDepth 100000
set_option maxHeartbeats 1000000 in
theorem shutlaw_fn (c a x : Int) (hc : 0 ≤ c ∧ c < 65536) (ha : 0 ≤ a ∧ a < 65536) (hx : 0 ≤ x ∧ x < 256) (w : World) : Does Try.prog 5 [.int .u16 c, .int .u16 a, .int .u8 x] w [] (fun v H => H = [] ∧ v = .bool true) := by
  obtain ⟨j, hja⟩ : ∃ j : Nat, a % 8192 = (j : Int) := ⟨(a % 8192).toNat, by omega⟩
  obtain ⟨k, hka⟩ : ∃ k : Nat, a % 160 = (k : Int) := ⟨(a % 160).toNat, by omega⟩
  have hj : j < 8192 := by omega
  have hk : k < 160 := by omega
  have hfx := flip_byte hx
  refine does_of Try.func5 rfl rfl rfl (St.refl w) ?_
  refine c_seq ?_
  refine c_region ?_
  refine l_l rfl rfl rfl ?_
  refine l_nil ?_
  refine c_seq ?_
  refine c_seq ?_
  refine c_region ?_
  refine l_x (x_val call_10 rfl (fun w hw => awake_fn w)) rfl rfl ?_
  rintro _ _ ⟨rfl, rfl⟩
  refine l_l rfl rfl rfl ?_
  refine l_nil ?_
  refine c_false rfl ?_
  refine c_skip ?_
  refine c_seq ?_
  refine c_region ?_
  refine l_x (x_call call_11 rfl (fun w hw => new_fn w)) rfl rfl ?_
  rintro _ _ ⟨G17, ⟨b, rfl, rfl⟩, rfl⟩
  refine l_l rfl rfl rfl ?_
  refine l_nil ?_
  refine c_seq ?_
  refine c_region ?_
  refine l_l rfl rfl rfl ?_
  refine l_as (v := (.int .u16 (j : Int))) rfl rfl rfl (by rw [← hja]; exact as_mask 13 8192 (by decide) rfl (by omega) (show _ < (65536 : Int) by omega) (show _ < (65536 : Int) by decide)) ?_
  refine l_as (v := (.int .u16 (32768 + (j : Int)))) rfl rfl rfl (congrArg _ (bor_top (by omega))) ?_
  refine l_l rfl rfl rfl ?_
  refine l_nil ?_
  refine c_seq ?_
  refine c_region ?_
  refine l_l rfl rfl rfl ?_
  refine l_as (v := (.int .u16 (k : Int))) rfl rfl rfl (congrArg _ (by rw [Int.tmod_eq_emod_of_nonneg (by omega), hka])) ?_
  refine l_as (v := (.int .u16 (65024 + (k : Int)))) rfl rfl rfl (congrArg _ (wrap_u16_id (by omega) (by omega))) ?_
  refine l_l rfl rfl rfl ?_
  refine l_nil ?_
  refine c_seq ?_
  refine c_region ?_
  refine l_l rfl rfl rfl ?_
  refine l_l rfl rfl rfl ?_
  refine l_x (x_callA call_12 rfl (fun w hw => write_fn b zeroU zeroU_wf w (St.lentA hw) (32768 + (j : Int)) 1 (by omega) (by decide))) rfl rfl ?_
  rintro _ _ ⟨rfl, rfl⟩
  refine l_nil ?_
  refine c_seq ?_
  refine c_region ?_
  refine l_l rfl rfl rfl ?_
  refine l_l rfl rfl rfl ?_
  refine l_x (x_callA call_12 rfl (fun w hw => write_fn b (writeU zeroU (32768 + (j : Int)) 1) (zeroU_ok.write (by decide)).wf w (St.lentA hw) (65024 + (k : Int)) 2 (by omega) (by decide))) rfl rfl ?_
  rintro _ _ ⟨rfl, rfl⟩
  refine l_nil ?_
  refine c_seq ?_
  refine c_region ?_
  refine l_l rfl rfl rfl ?_
  refine l_x (x_callA call_12 rfl (fun w hw => write_fn b (writeU (writeU zeroU (32768 + (j : Int)) 1) (65024 + (k : Int)) 2) ((zeroU_ok.write (by decide)).write (by decide)).wf w (St.lentA hw) 65344 128 (by decide) (by decide))) rfl rfl ?_
  rintro _ _ ⟨rfl, rfl⟩
  rw [shut3 hj hk]
  refine l_nil ?_
  refine c_seq ?_
  refine c_seq ?_
  refine c_region ?_
  refine l_l rfl rfl rfl ?_
  refine l_as (l_conv rfl rfl rfl) rfl rfl (by first | exact as_i64 (by omega) (by omega) | rfl) ?_
  refine l_as (rem_pos rfl rfl (by decide)) rfl rfl (by first | exact as_rem (by omega) | rfl) ?_
  refine l_l rfl rfl rfl ?_
  refine l_nil ?_
  refine c_block ?_
  refine c_loop (σ := Nat) [35, 36, 37, 38, 39] (fun i => [(35, .int .i64 i)]) (fun i => [(b, blk (cU (tickN i (shutS j k))) 60)]) (fun i => i ≤ (c % 18000).toNat) (fun i => (c % 18000).toNat - i) 0 ?_ ?_ ?_ ?_
  · exact Nat.zero_le _
  · exact .cons rfl .nil
  · exact fun _ h => h
  · rintro i y6 hi
    refine c_seq ?_
    refine c_region ?_
    refine l_l rfl rfl rfl ?_
    refine l_nil ?_
    refine c_seq ?_
    refine c_cond rfl (fun h1 => ?_) (fun h1 => ?_)
    · have h1n := by first | exact of_decide_eq_true h1 | exact of_decide_eq_false h1 | exact eq_of_beq h1 | exact ne_of_beq_false h1 | exact bne_t h1 | exact bne_f h1 | exact h1
      refine c_skip ?_
      refine c_seq ?_
      refine c_block ?_
      refine c_region ?_
      refine l_l rfl rfl rfl ?_
      refine l_x (x_callA call_13 rfl (fun w hw => tick_fn b (tickN i (shutS j k)) (tickN_ok (shutS_ok hj hk) i) w (St.lentA hw))) rfl rfl ?_
      rintro _ _ ⟨rfl, rfl⟩
      refine l_nil ?_
      refine c_region ?_
      refine l_as (v := (.int .i64 ((i + 1 : Nat) : Int))) rfl rfl rfl (congrArg _ (succ_law (by omega))) ?_
      refine l_l rfl rfl rfl ?_
      refine l_nil ?_
      exact ⟨i + 1, by omega, by omega, .cons rfl .nil, (by repeat (first | exact Agree.refl _ _ | exact Agree.mix rfl | refine Agree.put rfl ?_ | refine Agree.keep rfl ?_)), fun _ h => h⟩
    · have h1n := by first | exact of_decide_eq_true h1 | exact of_decide_eq_false h1 | exact eq_of_beq h1 | exact ne_of_beq_false h1 | exact bne_t h1 | exact bne_f h1 | exact h1
      refine c_exit rfl ?_
      refine c_seq ?_
      have hi9 : i = (c % 18000).toNat := by omega
      clear hi
      obtain ⟨s, hs⟩ : ∃ s, s = tickN i (shutS j k) := ⟨_, rfl⟩
      have hok : s.Ok := hs ▸ tickN_ok (shutS_ok hj hk) i
      have hsV : s.V.getD j 0 = 1 := hs ▸ shut_V1 hj i
      have hsO : s.O.getD k 0 = 2 := hs ▸ shut_O2 hk i
      rw [← hs]
      rcases (show modeU s = 3 ∨ modeU s = 2 ∨ modeU s < 2 by have := mode_range s; omega) with hm | hm | hm
      · refine c_region ?_
        refine l_l rfl rfl rfl ?_
        refine l_x (x_val call_16 rfl (fun w hw => mode_fn b s hok.wf w (row_own (by repeat (first | exact .head _ | refine .tail _ ?_ | refine List.mem_append_right _ ?_)) w hw))) rfl rfl ?_
        rintro _ _ ⟨rfl, rfl⟩
        rw [hm]
        refine l_l rfl rfl rfl ?_
        refine l_nil ?_
        refine c_seq ?_
        refine c_region ?_
        refine l_l rfl rfl rfl ?_
        refine l_l rfl rfl rfl ?_
        refine l_x (x_val call_17 rfl (fun w hw => read_fn b s hok.wf w (row_own (by repeat (first | exact .head _ | refine .tail _ ?_ | refine List.mem_append_right _ ?_)) w hw) (32768 + (j : Int)) (by omega))) rfl rfl ?_
        rintro _ _ ⟨rfl, rfl⟩
        rw [read_V hj, if_pos (by omega)]
        refine l_l rfl rfl rfl ?_
        refine l_l rfl rfl rfl ?_
        refine l_x (x_val call_17 rfl (fun w hw => read_fn b s hok.wf w (row_own (by repeat (first | exact .head _ | refine .tail _ ?_ | refine List.mem_append_right _ ?_)) w hw) (65024 + (k : Int)) (by omega))) rfl rfl ?_
        rintro _ _ ⟨rfl, rfl⟩
        rw [read_O hk, if_pos (by omega)]
        refine l_l rfl rfl rfl ?_
        refine l_l rfl rfl rfl ?_
        refine l_nil ?_
        refine c_seq ?_
        refine c_region ?_
        refine l_l rfl rfl rfl ?_
        refine l_l rfl rfl rfl ?_
        refine l_l rfl rfl rfl ?_
        refine l_x (x_callA call_12 rfl (fun w hw => write_fn b s hok.wf w (St.lentA hw) (32768 + (j : Int)) x (by omega) hx)) rfl rfl ?_
        rintro _ _ ⟨rfl, rfl⟩
        refine l_nil ?_
        refine c_seq ?_
        refine c_region ?_
        refine l_l rfl rfl rfl ?_
        refine l_l rfl rfl rfl ?_
        refine l_l rfl rfl rfl ?_
        refine l_x (x_callA call_12 rfl (fun w hw => write_fn b (writeU s (32768 + (j : Int)) x) (hok.write hx).wf w (St.lentA hw) (65024 + (k : Int)) x (by omega) hx)) rfl rfl ?_
        rintro _ _ ⟨rfl, rfl⟩
        rw [w2_3 hj hk x hm]
        refine l_nil ?_
        refine c_seq ?_
        have hw2 : (s : PU).Wf := by rw [← w2_3 hj hk x hm]; exact ((hok.write hx).write hx).wf
        refine c_region ?_
        refine l_l rfl rfl rfl ?_
        refine l_l rfl rfl rfl ?_
        refine l_x (x_val call_18 rfl (fun w hw => peek_fn b s hw2 w (row_own (by repeat (first | exact .head _ | refine .tail _ ?_ | refine List.mem_append_right _ ?_)) w hw) (32768 + (j : Int)) (by omega))) rfl rfl ?_
        rintro _ _ ⟨rfl, rfl⟩
        rw [peek_V hj, show s.V.getD j 0 = 1 from hsV]
        refine l_l rfl rfl rfl ?_
        refine l_l rfl rfl rfl ?_
        refine l_x (x_val call_18 rfl (fun w hw => peek_fn b s hw2 w (row_own (by repeat (first | exact .head _ | refine .tail _ ?_ | refine List.mem_append_right _ ?_)) w hw) (65024 + (k : Int)) (by omega))) rfl rfl ?_
        rintro _ _ ⟨rfl, rfl⟩
        rw [peek_O hk, show s.O.getD k 0 = 2 from hsO]
        refine l_l rfl rfl rfl ?_
        refine l_l rfl rfl rfl ?_
        refine l_nil ?_
        refine c_seq ?_
        refine c_region ?_
        refine l_l rfl rfl rfl ?_
        refine l_l rfl rfl rfl ?_
        refine l_as (v := (.int .u16 (k : Int))) rfl rfl rfl (congrArg _ ((wrap_u16_id (by omega) (by omega)).trans (by omega))) ?_
        refine l_as (v := (.int .i64 (k : Int))) rfl rfl rfl (congrArg _ (wrap_i64 (by omega) (by omega))) ?_
        refine l_l rfl rfl rfl ?_
        refine l_as (v := (.int .u8 (bxor .u8 x 1))) rfl rfl rfl rfl ?_
        refine l_x (x_callA call_19 rfl (fun w hw => sprite_fn b s hw2 w (St.lentA hw) (k : Int) (bxor .u8 x 1) hfx)) rfl rfl ?_
        rintro _ _ ⟨rfl, rfl⟩
        rw [sprite_k hk _ s]
        have hw3 : ({ s with O := s.O.set k (bxor .u8 x 1) } : PU).Wf := hw2.O_ _ hfx
        refine l_nil ?_
        refine c_seq ?_
        refine c_seq ?_
        refine c_region ?_
        refine l_l rfl rfl rfl ?_
        refine l_sure true rfl rfl rfl rfl ?_
        refine l_nil ?_
        refine c_true rfl ?_
        refine c_seq ?_
        refine c_region ?_
        refine l_l rfl rfl rfl ?_
        refine l_sure true rfl rfl rfl rfl ?_
        refine l_l rfl rfl rfl ?_
        refine l_l rfl rfl rfl ?_
        refine l_sure true rfl rfl rfl rfl ?_
        refine l_l rfl rfl rfl ?_
        refine l_l rfl rfl rfl ?_
        refine l_l rfl rfl rfl ?_
        refine l_sure true rfl rfl rfl rfl ?_
        refine l_l rfl rfl rfl ?_
        refine l_l rfl rfl rfl ?_
        refine l_l rfl rfl rfl ?_
        refine l_sure true rfl rfl rfl rfl ?_
        refine l_l rfl rfl rfl ?_
        refine l_l rfl rfl rfl ?_
        refine l_l rfl rfl rfl ?_
        refine l_l rfl rfl rfl ?_
        refine l_x (x_val call_18 rfl (fun w hw => peek_fn b ({ s with O := s.O.set k (bxor .u8 x 1) } : PU) hw3 w (row_own (by repeat (first | exact .head _ | refine .tail _ ?_ | refine List.mem_append_right _ ?_)) w hw) (65024 + (k : Int)) (by omega))) rfl rfl ?_
        rintro _ _ ⟨rfl, rfl⟩
        rw [peek_O hk, show ({ s with O := s.O.set k (bxor .u8 x 1) } : PU).O.getD k 0 = bxor .u8 x 1 from getD_set (by rw [hw2.lO]; exact hk) _]
        refine l_l rfl rfl rfl ?_
        refine l_as (v := (.int .u8 (bxor .u8 x 1))) rfl rfl rfl rfl ?_
        refine l_sure true rfl rfl rfl (beq_self_eq_true _) ?_
        refine l_l rfl rfl rfl ?_
        refine l_l rfl rfl rfl ?_
        refine l_nil ?_
        refine c_ret ?_
        exact l_end (fun _ _ => rets_v rfl) (List.nil_sublist _) ⟨rfl, rfl⟩
      · refine c_region ?_
        refine l_l rfl rfl rfl ?_
        refine l_x (x_val call_16 rfl (fun w hw => mode_fn b s hok.wf w (row_own (by repeat (first | exact .head _ | refine .tail _ ?_ | refine List.mem_append_right _ ?_)) w hw))) rfl rfl ?_
        rintro _ _ ⟨rfl, rfl⟩
        rw [hm]
        refine l_l rfl rfl rfl ?_
        refine l_nil ?_
        refine c_seq ?_
        refine c_region ?_
        refine l_l rfl rfl rfl ?_
        refine l_l rfl rfl rfl ?_
        refine l_x (x_val call_17 rfl (fun w hw => read_fn b s hok.wf w (row_own (by repeat (first | exact .head _ | refine .tail _ ?_ | refine List.mem_append_right _ ?_)) w hw) (32768 + (j : Int)) (by omega))) rfl rfl ?_
        rintro _ _ ⟨rfl, rfl⟩
        rw [read_V hj, if_neg (by omega), peek_V hj, hsV]
        refine l_l rfl rfl rfl ?_
        refine l_l rfl rfl rfl ?_
        refine l_x (x_val call_17 rfl (fun w hw => read_fn b s hok.wf w (row_own (by repeat (first | exact .head _ | refine .tail _ ?_ | refine List.mem_append_right _ ?_)) w hw) (65024 + (k : Int)) (by omega))) rfl rfl ?_
        rintro _ _ ⟨rfl, rfl⟩
        rw [read_O hk, if_pos (by omega)]
        refine l_l rfl rfl rfl ?_
        refine l_l rfl rfl rfl ?_
        refine l_nil ?_
        refine c_seq ?_
        refine c_region ?_
        refine l_l rfl rfl rfl ?_
        refine l_l rfl rfl rfl ?_
        refine l_l rfl rfl rfl ?_
        refine l_x (x_callA call_12 rfl (fun w hw => write_fn b s hok.wf w (St.lentA hw) (32768 + (j : Int)) x (by omega) hx)) rfl rfl ?_
        rintro _ _ ⟨rfl, rfl⟩
        refine l_nil ?_
        refine c_seq ?_
        refine c_region ?_
        refine l_l rfl rfl rfl ?_
        refine l_l rfl rfl rfl ?_
        refine l_l rfl rfl rfl ?_
        refine l_x (x_callA call_12 rfl (fun w hw => write_fn b (writeU s (32768 + (j : Int)) x) (hok.write hx).wf w (St.lentA hw) (65024 + (k : Int)) x (by omega) hx)) rfl rfl ?_
        rintro _ _ ⟨rfl, rfl⟩
        rw [w2_2 hj hk x hm]
        refine l_nil ?_
        refine c_seq ?_
        have hw2 : (({ s with V := s.V.set j x } : PU) : PU).Wf := by rw [← w2_2 hj hk x hm]; exact ((hok.write hx).write hx).wf
        refine c_region ?_
        refine l_l rfl rfl rfl ?_
        refine l_l rfl rfl rfl ?_
        refine l_x (x_val call_18 rfl (fun w hw => peek_fn b ({ s with V := s.V.set j x } : PU) hw2 w (row_own (by repeat (first | exact .head _ | refine .tail _ ?_ | refine List.mem_append_right _ ?_)) w hw) (32768 + (j : Int)) (by omega))) rfl rfl ?_
        rintro _ _ ⟨rfl, rfl⟩
        rw [peek_V hj, show ({ s with V := s.V.set j x } : PU).V.getD j 0 = x from getD_set (by rw [hok.wf.lV]; exact hj) x]
        refine l_l rfl rfl rfl ?_
        refine l_l rfl rfl rfl ?_
        refine l_x (x_val call_18 rfl (fun w hw => peek_fn b ({ s with V := s.V.set j x } : PU) hw2 w (row_own (by repeat (first | exact .head _ | refine .tail _ ?_ | refine List.mem_append_right _ ?_)) w hw) (65024 + (k : Int)) (by omega))) rfl rfl ?_
        rintro _ _ ⟨rfl, rfl⟩
        rw [peek_O hk, show ({ s with V := s.V.set j x } : PU).O.getD k 0 = 2 from hsO]
        refine l_l rfl rfl rfl ?_
        refine l_l rfl rfl rfl ?_
        refine l_nil ?_
        refine c_seq ?_
        refine c_region ?_
        refine l_l rfl rfl rfl ?_
        refine l_l rfl rfl rfl ?_
        refine l_as (v := (.int .u16 (k : Int))) rfl rfl rfl (congrArg _ ((wrap_u16_id (by omega) (by omega)).trans (by omega))) ?_
        refine l_as (v := (.int .i64 (k : Int))) rfl rfl rfl (congrArg _ (wrap_i64 (by omega) (by omega))) ?_
        refine l_l rfl rfl rfl ?_
        refine l_as (v := (.int .u8 (bxor .u8 x 1))) rfl rfl rfl rfl ?_
        refine l_x (x_callA call_19 rfl (fun w hw => sprite_fn b ({ s with V := s.V.set j x } : PU) hw2 w (St.lentA hw) (k : Int) (bxor .u8 x 1) hfx)) rfl rfl ?_
        rintro _ _ ⟨rfl, rfl⟩
        rw [sprite_k hk _ ({ s with V := s.V.set j x } : PU)]
        have hw3 : ({ ({ s with V := s.V.set j x } : PU) with O := ({ s with V := s.V.set j x } : PU).O.set k (bxor .u8 x 1) } : PU).Wf := hw2.O_ _ hfx
        refine l_nil ?_
        refine c_seq ?_
        refine c_seq ?_
        refine c_region ?_
        refine l_l rfl rfl rfl ?_
        refine l_sure false rfl rfl rfl rfl ?_
        refine l_nil ?_
        refine c_false rfl ?_
        refine c_skip ?_
        refine c_seq ?_
        refine c_seq ?_
        refine c_region ?_
        refine l_l rfl rfl rfl ?_
        refine l_sure true rfl rfl rfl rfl ?_
        refine l_nil ?_
        refine c_true rfl ?_
        refine c_seq ?_
        refine c_region ?_
        refine l_l rfl rfl rfl ?_
        refine l_sure true rfl rfl rfl rfl ?_
        refine l_l rfl rfl rfl ?_
        refine l_l rfl rfl rfl ?_
        refine l_sure true rfl rfl rfl rfl ?_
        refine l_l rfl rfl rfl ?_
        refine l_l rfl rfl rfl ?_
        refine l_l rfl rfl rfl ?_
        refine l_l rfl rfl rfl ?_
        refine l_sure true rfl rfl rfl (beq_self_eq_true _) ?_
        refine l_l rfl rfl rfl ?_
        refine l_l rfl rfl rfl ?_
        refine l_l rfl rfl rfl ?_
        refine l_sure true rfl rfl rfl rfl ?_
        refine l_l rfl rfl rfl ?_
        refine l_l rfl rfl rfl ?_
        refine l_l rfl rfl rfl ?_
        refine l_l rfl rfl rfl ?_
        refine l_x (x_val call_18 rfl (fun w hw => peek_fn b ({ ({ s with V := s.V.set j x } : PU) with O := ({ s with V := s.V.set j x } : PU).O.set k (bxor .u8 x 1) } : PU) hw3 w (row_own (by repeat (first | exact .head _ | refine .tail _ ?_ | refine List.mem_append_right _ ?_)) w hw) (65024 + (k : Int)) (by omega))) rfl rfl ?_
        rintro _ _ ⟨rfl, rfl⟩
        rw [peek_O hk, show ({ ({ s with V := s.V.set j x } : PU) with O := ({ s with V := s.V.set j x } : PU).O.set k (bxor .u8 x 1) } : PU).O.getD k 0 = bxor .u8 x 1 from getD_set (by rw [hw2.lO]; exact hk) _]
        refine l_l rfl rfl rfl ?_
        refine l_as (v := (.int .u8 (bxor .u8 x 1))) rfl rfl rfl rfl ?_
        refine l_sure true rfl rfl rfl (beq_self_eq_true _) ?_
        refine l_l rfl rfl rfl ?_
        refine l_l rfl rfl rfl ?_
        refine l_nil ?_
        refine c_ret ?_
        exact l_end (fun _ _ => rets_v rfl) (List.nil_sublist _) ⟨rfl, rfl⟩
      · refine c_region ?_
        refine l_l rfl rfl rfl ?_
        refine l_x (x_val call_16 rfl (fun w hw => mode_fn b s hok.wf w (row_own (by repeat (first | exact .head _ | refine .tail _ ?_ | refine List.mem_append_right _ ?_)) w hw))) rfl rfl ?_
        rintro _ _ ⟨rfl, rfl⟩
        refine l_l rfl rfl rfl ?_
        refine l_nil ?_
        refine c_seq ?_
        refine c_region ?_
        refine l_l rfl rfl rfl ?_
        refine l_l rfl rfl rfl ?_
        refine l_x (x_val call_17 rfl (fun w hw => read_fn b s hok.wf w (row_own (by repeat (first | exact .head _ | refine .tail _ ?_ | refine List.mem_append_right _ ?_)) w hw) (32768 + (j : Int)) (by omega))) rfl rfl ?_
        rintro _ _ ⟨rfl, rfl⟩
        rw [read_V hj, if_neg (by omega), peek_V hj, hsV]
        refine l_l rfl rfl rfl ?_
        refine l_l rfl rfl rfl ?_
        refine l_x (x_val call_17 rfl (fun w hw => read_fn b s hok.wf w (row_own (by repeat (first | exact .head _ | refine .tail _ ?_ | refine List.mem_append_right _ ?_)) w hw) (65024 + (k : Int)) (by omega))) rfl rfl ?_
        rintro _ _ ⟨rfl, rfl⟩
        rw [read_O hk, if_neg (by omega), peek_O hk, hsO]
        refine l_l rfl rfl rfl ?_
        refine l_l rfl rfl rfl ?_
        refine l_nil ?_
        refine c_seq ?_
        refine c_region ?_
        refine l_l rfl rfl rfl ?_
        refine l_l rfl rfl rfl ?_
        refine l_l rfl rfl rfl ?_
        refine l_x (x_callA call_12 rfl (fun w hw => write_fn b s hok.wf w (St.lentA hw) (32768 + (j : Int)) x (by omega) hx)) rfl rfl ?_
        rintro _ _ ⟨rfl, rfl⟩
        refine l_nil ?_
        refine c_seq ?_
        refine c_region ?_
        refine l_l rfl rfl rfl ?_
        refine l_l rfl rfl rfl ?_
        refine l_l rfl rfl rfl ?_
        refine l_x (x_callA call_12 rfl (fun w hw => write_fn b (writeU s (32768 + (j : Int)) x) (hok.write hx).wf w (St.lentA hw) (65024 + (k : Int)) x (by omega) hx)) rfl rfl ?_
        rintro _ _ ⟨rfl, rfl⟩
        rw [w2_0 hj hk x hm]
        refine l_nil ?_
        refine c_seq ?_
        have hw2 : (({ s with V := s.V.set j x, O := s.O.set k x } : PU) : PU).Wf := by rw [← w2_0 hj hk x hm]; exact ((hok.write hx).write hx).wf
        refine c_region ?_
        refine l_l rfl rfl rfl ?_
        refine l_l rfl rfl rfl ?_
        refine l_x (x_val call_18 rfl (fun w hw => peek_fn b ({ s with V := s.V.set j x, O := s.O.set k x } : PU) hw2 w (row_own (by repeat (first | exact .head _ | refine .tail _ ?_ | refine List.mem_append_right _ ?_)) w hw) (32768 + (j : Int)) (by omega))) rfl rfl ?_
        rintro _ _ ⟨rfl, rfl⟩
        rw [peek_V hj, show ({ s with V := s.V.set j x, O := s.O.set k x } : PU).V.getD j 0 = x from getD_set (by rw [hok.wf.lV]; exact hj) x]
        refine l_l rfl rfl rfl ?_
        refine l_l rfl rfl rfl ?_
        refine l_x (x_val call_18 rfl (fun w hw => peek_fn b ({ s with V := s.V.set j x, O := s.O.set k x } : PU) hw2 w (row_own (by repeat (first | exact .head _ | refine .tail _ ?_ | refine List.mem_append_right _ ?_)) w hw) (65024 + (k : Int)) (by omega))) rfl rfl ?_
        rintro _ _ ⟨rfl, rfl⟩
        rw [peek_O hk, show ({ s with V := s.V.set j x, O := s.O.set k x } : PU).O.getD k 0 = x from getD_set (by rw [hok.wf.lO]; exact hk) x]
        refine l_l rfl rfl rfl ?_
        refine l_l rfl rfl rfl ?_
        refine l_nil ?_
        refine c_seq ?_
        refine c_region ?_
        refine l_l rfl rfl rfl ?_
        refine l_l rfl rfl rfl ?_
        refine l_as (v := (.int .u16 (k : Int))) rfl rfl rfl (congrArg _ ((wrap_u16_id (by omega) (by omega)).trans (by omega))) ?_
        refine l_as (v := (.int .i64 (k : Int))) rfl rfl rfl (congrArg _ (wrap_i64 (by omega) (by omega))) ?_
        refine l_l rfl rfl rfl ?_
        refine l_as (v := (.int .u8 (bxor .u8 x 1))) rfl rfl rfl rfl ?_
        refine l_x (x_callA call_19 rfl (fun w hw => sprite_fn b ({ s with V := s.V.set j x, O := s.O.set k x } : PU) hw2 w (St.lentA hw) (k : Int) (bxor .u8 x 1) hfx)) rfl rfl ?_
        rintro _ _ ⟨rfl, rfl⟩
        rw [sprite_k hk _ ({ s with V := s.V.set j x, O := s.O.set k x } : PU)]
        have hw3 : ({ ({ s with V := s.V.set j x, O := s.O.set k x } : PU) with O := ({ s with V := s.V.set j x, O := s.O.set k x } : PU).O.set k (bxor .u8 x 1) } : PU).Wf := hw2.O_ _ hfx
        refine l_nil ?_
        refine c_seq ?_
        refine c_seq ?_
        refine c_region ?_
        refine l_l rfl rfl rfl ?_
        refine l_sure false rfl rfl rfl (beq_eq_false_iff_ne.2 (by omega)) ?_
        refine l_nil ?_
        refine c_false rfl ?_
        refine c_skip ?_
        refine c_seq ?_
        refine c_seq ?_
        refine c_region ?_
        refine l_l rfl rfl rfl ?_
        refine l_sure false rfl rfl rfl (beq_eq_false_iff_ne.2 (by omega)) ?_
        refine l_nil ?_
        refine c_false rfl ?_
        refine c_skip ?_
        refine c_seq ?_
        refine c_region ?_
        refine l_l rfl rfl rfl ?_
        refine l_sure true rfl rfl rfl rfl ?_
        refine l_l rfl rfl rfl ?_
        refine l_l rfl rfl rfl ?_
        refine l_sure true rfl rfl rfl rfl ?_
        refine l_l rfl rfl rfl ?_
        refine l_l rfl rfl rfl ?_
        refine l_l rfl rfl rfl ?_
        refine l_l rfl rfl rfl ?_
        refine l_sure true rfl rfl rfl (beq_self_eq_true _) ?_
        refine l_l rfl rfl rfl ?_
        refine l_l rfl rfl rfl ?_
        refine l_l rfl rfl rfl ?_
        refine l_l rfl rfl rfl ?_
        refine l_sure true rfl rfl rfl (beq_self_eq_true _) ?_
        refine l_l rfl rfl rfl ?_
        refine l_l rfl rfl rfl ?_
        refine l_l rfl rfl rfl ?_
        refine l_l rfl rfl rfl ?_
        refine l_x (x_val call_18 rfl (fun w hw => peek_fn b ({ ({ s with V := s.V.set j x, O := s.O.set k x } : PU) with O := ({ s with V := s.V.set j x, O := s.O.set k x } : PU).O.set k (bxor .u8 x 1) } : PU) hw3 w (row_own (by repeat (first | exact .head _ | refine .tail _ ?_ | refine List.mem_append_right _ ?_)) w hw) (65024 + (k : Int)) (by omega))) rfl rfl ?_
        rintro _ _ ⟨rfl, rfl⟩
        rw [peek_O hk, show ({ ({ s with V := s.V.set j x, O := s.O.set k x } : PU) with O := ({ s with V := s.V.set j x, O := s.O.set k x } : PU).O.set k (bxor .u8 x 1) } : PU).O.getD k 0 = bxor .u8 x 1 from getD_set (by rw [hw2.lO]; exact hk) _]
        refine l_l rfl rfl rfl ?_
        refine l_as (v := (.int .u8 (bxor .u8 x 1))) rfl rfl rfl rfl ?_
        refine l_sure true rfl rfl rfl (beq_self_eq_true _) ?_
        refine l_l rfl rfl rfl ?_
        refine l_l rfl rfl rfl ?_
        refine l_nil ?_
        refine c_ret ?_
        exact l_end (fun _ _ => rets_v rfl) (List.nil_sublist _) ⟨rfl, rfl⟩

end Go.Proofs.Ytjceoaomkbabmaa
