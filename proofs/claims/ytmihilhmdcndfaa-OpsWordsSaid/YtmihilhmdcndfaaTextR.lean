/- The document's words. -/
import Derived.Test.YtmihilhmdcndfaaWords
import Derived.Test.YtmihilhmdcndfaaCalls
namespace Go.Proofs.Ytmihilhmdcndfaa
open Go Go.VV Go.Proofs
set_option linter.unusedSimpArgs false
set_option linter.unusedVariables false
set_option maxRecDepth 100000
theorem rhex_fn (n : Int) (h0 : 0 ≤ n) (hn : n < 65536) (many : Nat) (hm : 1 ≤ many) (hm4 : many ≤ 4) (w : World) :
    Does Try.prog 27 [.int .u16 n, .int .i64 many] w [] (fun v H => H = [] ∧ v = .string (bs (hexL n.toNat many))) := by
  refine does_of Try.func27 rfl rfl rfl (St.refl w) ?_
  refine c_seq ?_
  refine c_region ?_
  refine l_l rfl rfl rfl ?_
  refine l_nil ?_
  refine c_seq ?_
  refine c_region ?_
  refine l_l rfl rfl rfl ?_
  refine l_nil ?_
  refine c_seq ?_
  refine c_region ?_
  refine l_l rfl rfl rfl ?_
  refine l_nil ?_
  refine c_seq ?_
  refine c_region ?_
  refine l_l rfl rfl rfl ?_
  refine l_as (v := (.int .i64 n)) rfl rfl rfl (congrArg _ (wrap_i64 (by omega) (by omega))) ?_
  refine l_l rfl rfl rfl ?_
  refine l_nil ?_
  refine c_seq ?_
  refine c_seq ?_
  refine c_region ?_
  refine l_l rfl rfl rfl ?_
  refine l_nil ?_
  refine c_block ?_
  refine c_loopk (σ := Nat) [5, 7, 8, 11, 12, 13, 14, 15, 16, 17, 18, 19, 20, 21, 22, 23, 24, 25] (fun j => [(5, .string (bs (hexL n.toNat j))), (7, .int .i64 ((n.toNat / 16 ^ j : Nat) : Int)), (8, .int .i64 j)]) (fun j => j ≤ many) (fun j => many - j) 0 ?_ ?_ ?_
  · exact Nat.zero_le _
  · exact .cons rfl (.cons (show Value.int .i64 n = Value.int .i64 ((n.toNat / 16 ^ 0 : Nat) : Int) from congrArg _ (by simp; omega)) (.cons rfl .nil))
  · intro j y5 hj
    have hb9 : n.toNat / 16 ^ j ≤ n.toNat := Nat.div_le_self _ _
    obtain ⟨m, hm9⟩ : ∃ m, n.toNat / 16 ^ j = m := ⟨_, rfl⟩
    rw [hm9] at hb9
    rw [hm9]
    refine c_seq ?_
    refine c_seq ?_
    refine c_region ?_
    refine l_l rfl rfl rfl ?_
    refine l_l rfl rfl rfl ?_
    refine l_l rfl rfl rfl ?_
    refine l_nil ?_
    refine c_cond rfl (fun h1 => ?_) (fun h1 => ?_)
    · refine c_skip ?_
      refine c_seq ?_
      refine c_block ?_
      refine c_seq ?_
      refine c_region ?_
      refine l_l rfl rfl rfl ?_
      refine l_l rfl rfl rfl ?_
      refine l_as (v := (.int .i64 (((m % 16) : Nat) : Int))) (rem_pos rfl rfl (by decide)) rfl rfl (congrArg _ (by rw [Int.tmod_eq_emod_of_nonneg (by omega)]; omega)) ?_
      refine l_l (light_idxstr (m % 16) rfl rfl rfl rfl (dig_get (Nat.mod_lt _ (by decide)))) rfl rfl ?_
      refine l_x (x_slc rfl rfl rfl rfl rfl rfl) rfl rfl ?_
      rintro _ _ ⟨b20, rfl, rfl⟩
      refine l_x (x_str (l := [dig (m % 16)]) rfl rfl rfl rfl (fun w hw => row_own (.head _) w hw)) rfl rfl ?_
      rintro _ _ ⟨rfl, rfl⟩
      refine l_l rfl rfl rfl ?_
      refine l_l (light_cat rfl rfl (by rw [hexL_len]; simp only [List.length_cons, List.length_nil]; omega)) rfl rfl ?_
      refine l_l rfl rfl rfl ?_
      refine l_nil ?_
      refine c_region ?_
      refine l_l rfl rfl rfl ?_
      refine l_as (v := (.int .i64 ((m / 16 : Nat) : Int))) (quo_pos rfl rfl (by decide)) rfl rfl (congrArg _ (by rw [Int.tdiv_eq_ediv_of_nonneg (by omega), wrap_i64 (by omega) (by omega)]; omega)) ?_
      refine l_l rfl rfl rfl ?_
      refine l_nil ?_
      refine c_region ?_
      refine l_l rfl rfl rfl ?_
      refine l_as (v := (.int .i64 ((j + 1 : Nat) : Int))) rfl rfl rfl (congrArg _ (succ_law (by omega))) ?_
      refine l_l rfl rfl rfl ?_
      refine l_nil ?_
      exact ⟨j + 1, by (try simp only [decide_eq_true_eq, decide_eq_false_iff_not, beq_iff_eq, beq_eq_false_iff_ne, bne_iff_ne, bne_eq_false_iff_eq, ne_eq] at *); omega, by (try simp only [decide_eq_true_eq, decide_eq_false_iff_not, beq_iff_eq, beq_eq_false_iff_ne, bne_iff_ne, bne_eq_false_iff_eq, ne_eq] at *); omega, .cons (congrArg (fun l => Value.string (bs l)) (show [dig (m % 16)] ++ hexL n.toNat j = hexL n.toNat (j + 1) by rw [hexL_succ, hm9]; rfl)) (.cons (congrArg (fun x : Nat => Value.int .i64 x) (show m / 16 = n.toNat / 16 ^ (j + 1) by rw [Nat.pow_succ, ← Nat.div_div_eq_div_mul, hm9])) (.cons rfl .nil)), (by repeat (first | exact Agree.refl _ _ | exact Agree.mix rfl | refine Agree.put rfl ?_ | refine Agree.keep rfl ?_)), fun _ h => h.sub (List.sublist_append_right [_] _)⟩
    · refine c_exit rfl ?_
      refine c_seq ?_
      refine c_region ?_
      refine l_l rfl rfl rfl ?_
      refine l_l rfl rfl rfl ?_
      refine l_nil ?_
      refine c_ret ?_
      obtain rfl : many = j := by (try simp only [decide_eq_true_eq, decide_eq_false_iff_not, beq_iff_eq, beq_eq_false_iff_ne, bne_iff_ne, bne_eq_false_iff_eq, ne_eq] at *); omega
      exact l_end0 (fun _ _ => rets_v rfl) ⟨rfl, rfl⟩

theorem rwhen_fn (word more : List UInt8) (cond : Int) (hw1 : word.length ≤ 100) (hm1 : more.length ≤ 100) (w : World) :
    Does Try.prog 33 [.string (bs word), .int .i64 cond, .string (bs more)] w [] (fun v H => H = [] ∧ v = .string (bs (whenL word cond more))) := by
  have q1 := cond_len cond
  have q2 := cond_ne cond
  refine does_of Try.func33 rfl rfl rfl (St.refl w) ?_
  refine c_seq ?_
  refine c_region ?_
  refine l_l rfl rfl rfl ?_
  refine l_nil ?_
  refine c_seq ?_
  refine c_region ?_
  refine l_l rfl rfl rfl ?_
  refine l_nil ?_
  refine c_seq ?_
  refine c_seq ?_
  refine c_region ?_
  refine l_l rfl rfl rfl ?_
  refine l_l rfl rfl rfl ?_
  refine l_nil ?_
  refine c_cond rfl (fun h1 => ?_) (fun h1 => ?_)
  · refine c_region ?_
    refine l_l rfl rfl rfl ?_
    refine l_x (x_slc (z := [.string (bs [])]) (l := [.string (bs [110, 122]), .string (bs [122]), .string (bs [110, 99]), .string (bs [99])]) (ps := [(0, .string (bs [110, 122])), (1, .string (bs [122])), (2, .string (bs [110, 99])), (3, .string (bs [99]))]) rfl rfl rfl rfl (by kernel_rfl) (by kernel_rfl)) rfl rfl ?_
    rintro _ _ ⟨b11, rfl, rfl⟩
    refine l_x (x_val call_32 rfl (fun w hw => rpick_fn cond condW _ _ (by decide) w (fun _ => ⟨_, 0, rfl, row_own (by repeat (first | exact .head _ | refine .tail _ ?_ | refine List.mem_append_right _ ?_)) w hw⟩))) rfl rfl ?_
    rintro _ _ ⟨rfl, rfl⟩
    refine l_l rfl rfl rfl ?_
    refine l_nil ?_
    refine c_seq ?_
    refine c_seq ?_
    refine c_region ?_
    refine l_l rfl rfl rfl ?_
    refine l_l (light_nestr rfl rfl) rfl rfl ?_
    refine l_b rfl rfl rfl (fun h2 => ?_) (fun h2 => ?_)
    · refine l_l rfl rfl rfl ?_
      refine l_l (light_nestr rfl rfl) rfl rfl ?_
      refine l_l rfl rfl rfl ?_
      refine l_nil ?_
      refine c_cond rfl (fun h3 => ?_) (fun h3 => ?_)
      · refine c_region ?_
        refine l_l rfl rfl rfl ?_
        refine l_l (light_cat rfl rfl (by (try simp only [List.length_append, List.length_cons, List.length_nil]); omega)) rfl rfl ?_
        refine l_l rfl rfl rfl ?_
        refine l_l (light_cat rfl rfl (by (try simp only [List.length_append, List.length_cons, List.length_nil]); omega)) rfl rfl ?_
        refine l_l rfl rfl rfl ?_
        refine l_nil ?_
        refine c_seq ?_
        refine c_seq ?_
        refine c_region ?_
        refine l_l rfl rfl rfl ?_
        refine l_l (light_eqstr rfl rfl) rfl rfl ?_
        refine l_nil ?_
        refine c_cond rfl (fun h4 => ?_) (fun h4 => ?_)
        · refine c_seq ?_
          refine c_region ?_
          refine l_l rfl rfl rfl ?_
          refine l_l rfl rfl rfl ?_
          refine l_nil ?_
          refine c_ret ?_
          exact l_end0 (fun _ _ => rets_v rfl) ⟨rfl, congrArg (fun l => Value.string (bs l)) (by unfold whenL; simp_all)⟩
        · refine c_skip ?_
          refine c_seq ?_
          refine c_region ?_
          refine l_l rfl rfl rfl ?_
          refine l_l (light_cat rfl rfl (by (try simp only [List.length_append, List.length_cons, List.length_nil]); omega)) rfl rfl ?_
          refine l_l rfl rfl rfl ?_
          refine l_l (light_cat rfl rfl (by (try simp only [List.length_append, List.length_cons, List.length_nil]); omega)) rfl rfl ?_
          refine l_l rfl rfl rfl ?_
          refine l_nil ?_
          refine c_ret ?_
          exact l_end0 (fun _ _ => rets_v rfl) ⟨rfl, congrArg (fun l => Value.string (bs l)) (by unfold whenL; simp_all)⟩
      · refine c_region ?_
        refine l_l rfl rfl rfl ?_
        refine l_l rfl rfl rfl ?_
        refine l_l (light_cat rfl rfl (by (try simp only [List.length_append, List.length_cons, List.length_nil]); omega)) rfl rfl ?_
        refine l_l rfl rfl rfl ?_
        refine l_nil ?_
        refine c_seq ?_
        refine c_seq ?_
        refine c_region ?_
        refine l_l rfl rfl rfl ?_
        refine l_l (light_eqstr rfl rfl) rfl rfl ?_
        refine l_nil ?_
        refine c_cond rfl (fun h5 => ?_) (fun h5 => ?_)
        · refine c_seq ?_
          refine c_region ?_
          refine l_l rfl rfl rfl ?_
          refine l_l rfl rfl rfl ?_
          refine l_nil ?_
          refine c_ret ?_
          exact l_end0 (fun _ _ => rets_v rfl) ⟨rfl, congrArg (fun l => Value.string (bs l)) (by unfold whenL; simp_all)⟩
        · refine c_skip ?_
          refine c_seq ?_
          refine c_region ?_
          refine l_l rfl rfl rfl ?_
          refine l_l (light_cat rfl rfl (by (try simp only [List.length_append, List.length_cons, List.length_nil]); omega)) rfl rfl ?_
          refine l_l rfl rfl rfl ?_
          refine l_l (light_cat rfl rfl (by (try simp only [List.length_append, List.length_cons, List.length_nil]); omega)) rfl rfl ?_
          refine l_l rfl rfl rfl ?_
          refine l_nil ?_
          refine c_ret ?_
          exact l_end0 (fun _ _ => rets_v rfl) ⟨rfl, congrArg (fun l => Value.string (bs l)) (by unfold whenL; simp_all)⟩
    · refine l_p rfl rfl ?_
      refine l_p rfl rfl ?_
      refine l_l rfl rfl rfl ?_
      refine l_nil ?_
      refine c_false rfl ?_
      refine c_region ?_
      refine l_l rfl rfl rfl ?_
      refine l_l rfl rfl rfl ?_
      refine l_l (light_cat rfl rfl (by (try simp only [List.length_append, List.length_cons, List.length_nil]); omega)) rfl rfl ?_
      refine l_l rfl rfl rfl ?_
      refine l_nil ?_
      refine c_seq ?_
      refine c_seq ?_
      refine c_region ?_
      refine l_l rfl rfl rfl ?_
      refine l_l (light_eqstr rfl rfl) rfl rfl ?_
      refine l_nil ?_
      refine c_cond rfl (fun h6 => ?_) (fun h6 => ?_)
      · refine c_seq ?_
        refine c_region ?_
        refine l_l rfl rfl rfl ?_
        refine l_l rfl rfl rfl ?_
        refine l_nil ?_
        refine c_ret ?_
        exact l_end0 (fun _ _ => rets_v rfl) ⟨rfl, congrArg (fun l => Value.string (bs l)) (by unfold whenL; simp_all)⟩
      · refine c_skip ?_
        refine c_seq ?_
        refine c_region ?_
        refine l_l rfl rfl rfl ?_
        refine l_l (light_cat rfl rfl (by (try simp only [List.length_append, List.length_cons, List.length_nil]); omega)) rfl rfl ?_
        refine l_l rfl rfl rfl ?_
        refine l_l (light_cat rfl rfl (by (try simp only [List.length_append, List.length_cons, List.length_nil]); omega)) rfl rfl ?_
        refine l_l rfl rfl rfl ?_
        refine l_nil ?_
        refine c_ret ?_
        exact l_end0 (fun _ _ => rets_v rfl) ⟨rfl, congrArg (fun l => Value.string (bs l)) (by unfold whenL; simp_all)⟩
  · refine c_skip ?_
    refine c_seq ?_
    refine c_seq ?_
    refine c_region ?_
    refine l_l rfl rfl rfl ?_
    refine l_l (light_nestr rfl rfl) rfl rfl ?_
    refine l_b rfl rfl rfl (fun h7 => ?_) (fun h7 => ?_)
    · refine l_l rfl rfl rfl ?_
      refine l_l (light_nestr rfl rfl) rfl rfl ?_
      refine l_l rfl rfl rfl ?_
      refine l_nil ?_
      refine c_cond rfl (fun h8 => ?_) (fun h8 => ?_)
      · refine c_region ?_
        refine l_l rfl rfl rfl ?_
        refine l_l (light_cat rfl rfl (by (try simp only [List.length_append, List.length_cons, List.length_nil]); omega)) rfl rfl ?_
        refine l_l rfl rfl rfl ?_
        refine l_l (light_cat rfl rfl (by (try simp only [List.length_append, List.length_cons, List.length_nil]); omega)) rfl rfl ?_
        refine l_l rfl rfl rfl ?_
        refine l_nil ?_
        refine c_seq ?_
        refine c_seq ?_
        refine c_region ?_
        refine l_l rfl rfl rfl ?_
        refine l_l (light_eqstr rfl rfl) rfl rfl ?_
        refine l_nil ?_
        refine c_cond rfl (fun h9 => ?_) (fun h9 => ?_)
        · refine c_seq ?_
          refine c_region ?_
          refine l_l rfl rfl rfl ?_
          refine l_l rfl rfl rfl ?_
          refine l_nil ?_
          refine c_ret ?_
          exact l_end0 (fun _ _ => rets_v rfl) ⟨rfl, congrArg (fun l => Value.string (bs l)) (by unfold whenL; simp_all)⟩
        · refine c_skip ?_
          refine c_seq ?_
          refine c_region ?_
          refine l_l rfl rfl rfl ?_
          refine l_l (light_cat rfl rfl (by (try simp only [List.length_append, List.length_cons, List.length_nil]); omega)) rfl rfl ?_
          refine l_l rfl rfl rfl ?_
          refine l_l (light_cat rfl rfl (by (try simp only [List.length_append, List.length_cons, List.length_nil]); omega)) rfl rfl ?_
          refine l_l rfl rfl rfl ?_
          refine l_nil ?_
          refine c_ret ?_
          exact l_end0 (fun _ _ => rets_v rfl) ⟨rfl, congrArg (fun l => Value.string (bs l)) (by unfold whenL; simp_all)⟩
      · refine c_region ?_
        refine l_l rfl rfl rfl ?_
        refine l_l rfl rfl rfl ?_
        refine l_l (light_cat rfl rfl (by (try simp only [List.length_append, List.length_cons, List.length_nil]); omega)) rfl rfl ?_
        refine l_l rfl rfl rfl ?_
        refine l_nil ?_
        refine c_seq ?_
        refine c_seq ?_
        refine c_region ?_
        refine l_l rfl rfl rfl ?_
        refine l_l (light_eqstr rfl rfl) rfl rfl ?_
        refine l_nil ?_
        refine c_cond rfl (fun h10 => ?_) (fun h10 => ?_)
        · refine c_seq ?_
          refine c_region ?_
          refine l_l rfl rfl rfl ?_
          refine l_l rfl rfl rfl ?_
          refine l_nil ?_
          refine c_ret ?_
          exact l_end0 (fun _ _ => rets_v rfl) ⟨rfl, congrArg (fun l => Value.string (bs l)) (by unfold whenL; simp_all)⟩
        · refine c_skip ?_
          refine c_seq ?_
          refine c_region ?_
          refine l_l rfl rfl rfl ?_
          refine l_l (light_cat rfl rfl (by (try simp only [List.length_append, List.length_cons, List.length_nil]); omega)) rfl rfl ?_
          refine l_l rfl rfl rfl ?_
          refine l_l (light_cat rfl rfl (by (try simp only [List.length_append, List.length_cons, List.length_nil]); omega)) rfl rfl ?_
          refine l_l rfl rfl rfl ?_
          refine l_nil ?_
          refine c_ret ?_
          exact l_end0 (fun _ _ => rets_v rfl) ⟨rfl, congrArg (fun l => Value.string (bs l)) (by unfold whenL; simp_all)⟩
    · refine l_p rfl rfl ?_
      refine l_p rfl rfl ?_
      refine l_l rfl rfl rfl ?_
      refine l_nil ?_
      refine c_false rfl ?_
      refine c_region ?_
      refine l_l rfl rfl rfl ?_
      refine l_l rfl rfl rfl ?_
      refine l_l (light_cat rfl rfl (by (try simp only [List.length_append, List.length_cons, List.length_nil]); omega)) rfl rfl ?_
      refine l_l rfl rfl rfl ?_
      refine l_nil ?_
      refine c_seq ?_
      refine c_seq ?_
      refine c_region ?_
      refine l_l rfl rfl rfl ?_
      refine l_l (light_eqstr rfl rfl) rfl rfl ?_
      refine l_nil ?_
      refine c_cond rfl (fun h11 => ?_) (fun h11 => ?_)
      · refine c_seq ?_
        refine c_region ?_
        refine l_l rfl rfl rfl ?_
        refine l_l rfl rfl rfl ?_
        refine l_nil ?_
        refine c_ret ?_
        exact l_end0 (fun _ _ => rets_v rfl) ⟨rfl, congrArg (fun l => Value.string (bs l)) (by unfold whenL; simp_all)⟩
      · refine c_skip ?_
        refine c_seq ?_
        refine c_region ?_
        refine l_l rfl rfl rfl ?_
        refine l_l (light_cat rfl rfl (by (try simp only [List.length_append, List.length_cons, List.length_nil]); omega)) rfl rfl ?_
        refine l_l rfl rfl rfl ?_
        refine l_l (light_cat rfl rfl (by (try simp only [List.length_append, List.length_cons, List.length_nil]); omega)) rfl rfl ?_
        refine l_l rfl rfl rfl ?_
        refine l_nil ?_
        refine c_ret ?_
        exact l_end0 (fun _ _ => rets_v rfl) ⟨rfl, congrArg (fun l => Value.string (bs l)) (by unfold whenL; simp_all)⟩

set_option maxHeartbeats 4000000 in
theorem rtext_fn (o : Opr) (h0 : 0 ≤ o.n) (hn : o.n < 65536) (w : World) :
    Does Try.prog 14 [.agg (cO o).toArray] w [] (fun v H => H = [] ∧ v = .string (bs (txt o))) := by
  have q1 := one_len o.x; have q2 := one_len o.y; have q3 := two_len o.x; have q4 := far_len o.x; have q5 := sum_len o.x; have q6 := bit_len o.x; have q7 := turn_len o.x; have q8 := turna_len o.x; have q9 := hexL_len o.n.toNat 2; have q0 := hexL_len o.n.toNat 4; have qb := beh_len (o.kind - 44); have qh2 : (h2 o).length = 2 := hexL_len _ _; have qh4 : (h4 o).length = 4 := hexL_len _ _
  refine does_of Try.func14 rfl rfl rfl (St.refl w) ?_
  refine c_seq ?_
  refine c_region ?_
  refine l_x (x_box rfl rfl) rfl rfl ?_
  rintro _ _ ⟨b1, rfl, rfl⟩
  refine l_l rfl rfl rfl ?_
  refine l_nil ?_
  refine c_keep [3, 4, 5, 6, 7, 8, 9, 10] [(3, .string (bs (h2 o))), (4, .string (bs (h4 o)))] ?_ (fun y1 => ?_)
  · refine c_draw _ [2, 3, 4] (.step true 0 (.step true 1 (.step true 3 (.step true 4 (.step false 2 (.step false 5 (.step true 6 (.step true 7 .done)))))))) rfl (by kernel_rfl) (by kernel_rfl) (fun _ h => h) ?_
    refine d_light rfl (light_fa rfl rfl) rfl rfl rfl ?_
    refine d_load rfl rfl rfl (s_own (by repeat (first | exact .head _ | refine .tail _ ?_ | refine List.mem_append_right _ ?_)) (by rfl)) rfl rfl ?_
    refine d_light rfl (light_fa rfl rfl) rfl rfl rfl ?_
    refine d_load rfl rfl rfl (s_own (by repeat (first | exact .head _ | refine .tail _ ?_ | refine List.mem_append_right _ ?_)) (by rfl)) rfl rfl ?_
    refine d_x rfl (x_val call_27 rfl (fun w hw => rhex_fn _ h0 hn _ (by decide) (by decide) w)) rfl rfl (by intro _ _ _ hK x hx; obtain ⟨rfl, rfl⟩ := hK; repeat (first | exact hx | exact List.mem_append_left _ hx | refine List.mem_append_right _ ?_ | refine .tail _ ?_)) ?_
    rintro _ _ ⟨rfl, rfl⟩
    refine d_x rfl (x_val call_27 rfl (fun w hw => rhex_fn _ h0 hn _ (by decide) (by decide) w)) rfl rfl (by intro h; cases h) ?_
    rintro _ _ ⟨rfl, rfl⟩
    refine d_light rfl rfl rfl rfl rfl ?_
    refine d_light rfl rfl rfl rfl rfl ?_
    refine d_nil ?_
    exact ⟨(.cons rfl (.cons rfl .nil)), (by repeat (first | exact Agree.refl _ _ | exact Agree.mix rfl | refine Agree.put rfl ?_ | refine Agree.keep rfl ?_)), fun _ h => h⟩
  · refine c_seq ?_
    refine c_seq ?_
    refine c_region ?_
    refine l_l (light_fa rfl rfl) rfl rfl ?_
    refine l_x (x_load rfl rfl (at_own (by repeat (first | exact .head _ | refine .tail _ ?_ | refine List.mem_append_right _ ?_)) (by rfl))) rfl rfl ?_
    rintro _ _ ⟨rfl, rfl⟩
    refine l_nil ?_
    refine c_block ?_
    refine c_seq ?_
    refine c_region ?_
    refine l_l rfl rfl rfl ?_
    refine l_l rfl rfl rfl ?_
    refine l_nil ?_
    refine c_cond rfl (fun h1 => ?_) (fun h1 => ?_)
    · refine c_seq ?_
      refine c_region ?_
      refine l_l rfl rfl rfl ?_
      refine l_nil ?_
      refine c_ret ?_
      have hk := h1
      simp only [beq_iff_eq, decide_eq_true_eq] at hk
      exact l_end0 (fun _ _ => rets_v rfl) ⟨rfl, congrArg (fun l => Value.string (bs l)) (by simp [txt, restL, aloneL, hk, pickL, flagW, behW])⟩
    · refine c_seq ?_
      refine c_region ?_
      refine l_l rfl rfl rfl ?_
      refine l_l rfl rfl rfl ?_
      refine l_nil ?_
      refine c_cond rfl (fun h2 => ?_) (fun h2 => ?_)
      · refine c_seq ?_
        refine c_region ?_
        refine l_l rfl rfl rfl ?_
        refine l_l (light_cat rfl rfl (by (try simp only [List.length_append, List.length_cons, List.length_nil]); omega)) rfl rfl ?_
        refine l_l rfl rfl rfl ?_
        refine l_nil ?_
        refine c_ret ?_
        have hk := h2
        simp only [beq_iff_eq, decide_eq_true_eq] at hk
        exact l_end0 (fun _ _ => rets_v rfl) ⟨rfl, congrArg (fun l => Value.string (bs l)) (by simp [txt, restL, aloneL, hk, pickL, flagW, behW])⟩
      · refine c_seq ?_
        refine c_region ?_
        refine l_l rfl rfl rfl ?_
        refine l_l rfl rfl rfl ?_
        refine l_nil ?_
        refine c_cond rfl (fun h3 => ?_) (fun h3 => ?_)
        · refine c_seq ?_
          refine c_region ?_
          refine l_l rfl rfl rfl ?_
          refine l_nil ?_
          refine c_ret ?_
          have hk := h3
          simp only [beq_iff_eq, decide_eq_true_eq] at hk
          exact l_end0 (fun _ _ => rets_v rfl) ⟨rfl, congrArg (fun l => Value.string (bs l)) (by simp [txt, restL, aloneL, hk, pickL, flagW, behW])⟩
        · refine c_seq ?_
          refine c_region ?_
          refine l_l rfl rfl rfl ?_
          refine l_l rfl rfl rfl ?_
          refine l_nil ?_
          refine c_cond rfl (fun h4 => ?_) (fun h4 => ?_)
          · refine c_seq ?_
            refine c_region ?_
            refine l_l rfl rfl rfl ?_
            refine l_nil ?_
            refine c_ret ?_
            have hk := h4
            simp only [beq_iff_eq, decide_eq_true_eq] at hk
            exact l_end0 (fun _ _ => rets_v rfl) ⟨rfl, congrArg (fun l => Value.string (bs l)) (by simp [txt, restL, aloneL, hk, pickL, flagW, behW])⟩
          · refine c_seq ?_
            refine c_region ?_
            refine l_l rfl rfl rfl ?_
            refine l_l rfl rfl rfl ?_
            refine l_nil ?_
            refine c_cond rfl (fun h5 => ?_) (fun h5 => ?_)
            · refine c_seq ?_
              refine c_region ?_
              refine l_l rfl rfl rfl ?_
              refine l_nil ?_
              refine c_ret ?_
              have hk := h5
              simp only [beq_iff_eq, decide_eq_true_eq] at hk
              exact l_end0 (fun _ _ => rets_v rfl) ⟨rfl, congrArg (fun l => Value.string (bs l)) (by simp [txt, restL, aloneL, hk, pickL, flagW, behW])⟩
            · refine c_seq ?_
              refine c_region ?_
              refine l_l rfl rfl rfl ?_
              refine l_l rfl rfl rfl ?_
              refine l_nil ?_
              refine c_cond rfl (fun h6 => ?_) (fun h6 => ?_)
              · refine c_seq ?_
                refine c_region ?_
                refine l_l rfl rfl rfl ?_
                refine l_nil ?_
                refine c_ret ?_
                have hk := h6
                simp only [beq_iff_eq, decide_eq_true_eq] at hk
                exact l_end0 (fun _ _ => rets_v rfl) ⟨rfl, congrArg (fun l => Value.string (bs l)) (by simp [txt, restL, aloneL, hk, pickL, flagW, behW])⟩
              · refine c_seq ?_
                refine c_region ?_
                refine l_l rfl rfl rfl ?_
                refine l_l rfl rfl rfl ?_
                refine l_nil ?_
                refine c_cond rfl (fun h7 => ?_) (fun h7 => ?_)
                · refine c_seq ?_
                  refine c_draw _ [2, 3, 4, 5, 6] (.step true 0 (.step true 1 (.step true 5 (.step true 6 (.step false 2 (.step true 3 (.step true 4 (.step false 7 (.step true 8 (.step true 9 .done)))))))))) rfl (by kernel_rfl) (by kernel_rfl) (fun _ h => h) ?_
                  refine d_light rfl (light_fa rfl rfl) rfl rfl rfl ?_
                  refine d_load rfl rfl rfl (s_own (by repeat (first | exact .head _ | refine .tail _ ?_ | refine List.mem_append_right _ ?_)) (by rfl)) rfl rfl ?_
                  refine d_light rfl (light_fa rfl rfl) rfl rfl rfl ?_
                  refine d_load rfl rfl rfl (s_own (by repeat (first | exact .head _ | refine .tail _ ?_ | refine List.mem_append_right _ ?_)) (by rfl)) rfl rfl ?_
                  refine d_x rfl (x_val call_28 rfl (fun w hw => rone_fn _ w)) rfl rfl (by intro _ _ _ hK x hx; obtain ⟨rfl, rfl⟩ := hK; repeat (first | exact hx | exact List.mem_append_left _ hx | refine List.mem_append_right _ ?_ | refine .tail _ ?_)) ?_
                  rintro _ _ ⟨rfl, rfl⟩
                  refine d_light rfl (light_cat rfl rfl (by (try simp only [List.length_append, List.length_cons, List.length_nil]); omega)) rfl rfl rfl ?_
                  refine d_light rfl (light_cat rfl rfl (by (try simp only [List.length_append, List.length_cons, List.length_nil]); omega)) rfl rfl rfl ?_
                  refine d_x rfl (x_val call_28 rfl (fun w hw => rone_fn _ w)) rfl rfl (by intro h; cases h) ?_
                  rintro _ _ ⟨rfl, rfl⟩
                  refine d_light rfl (light_cat rfl rfl (by (try simp only [List.length_append, List.length_cons, List.length_nil]); omega)) rfl rfl rfl ?_
                  refine d_light rfl rfl rfl rfl rfl ?_
                  refine d_nil ?_
                  refine c_ret ?_
                  have hk := h7
                  simp only [beq_iff_eq, decide_eq_true_eq] at hk
                  exact l_end0 (fun _ _ => rets_v rfl) ⟨rfl, congrArg (fun l => Value.string (bs l)) (by simp [txt, restL, aloneL, hk, pickL, flagW, behW])⟩
                · refine c_seq ?_
                  refine c_region ?_
                  refine l_l rfl rfl rfl ?_
                  refine l_l rfl rfl rfl ?_
                  refine l_nil ?_
                  refine c_cond rfl (fun h8 => ?_) (fun h8 => ?_)
                  · refine c_seq ?_
                    refine c_region ?_
                    refine l_l (light_fa rfl rfl) rfl rfl ?_
                    refine l_x (x_load rfl rfl (at_own (by repeat (first | exact .head _ | refine .tail _ ?_ | refine List.mem_append_right _ ?_)) (by rfl))) rfl rfl ?_
                    rintro _ _ ⟨rfl, rfl⟩
                    refine l_x (x_val call_28 rfl (fun w hw => rone_fn _ w)) rfl rfl ?_
                    rintro _ _ ⟨rfl, rfl⟩
                    refine l_l (light_cat rfl rfl (by (try simp only [List.length_append, List.length_cons, List.length_nil]); omega)) rfl rfl ?_
                    refine l_l (light_cat rfl rfl (by (try simp only [List.length_append, List.length_cons, List.length_nil]); omega)) rfl rfl ?_
                    refine l_l rfl rfl rfl ?_
                    refine l_l (light_cat rfl rfl (by (try simp only [List.length_append, List.length_cons, List.length_nil]); omega)) rfl rfl ?_
                    refine l_l rfl rfl rfl ?_
                    refine l_nil ?_
                    refine c_ret ?_
                    have hk := h8
                    simp only [beq_iff_eq, decide_eq_true_eq] at hk
                    exact l_end0 (fun _ _ => rets_v rfl) ⟨rfl, congrArg (fun l => Value.string (bs l)) (by simp [txt, restL, aloneL, hk, pickL, flagW, behW])⟩
                  · refine c_seq ?_
                    refine c_region ?_
                    refine l_l rfl rfl rfl ?_
                    refine l_l rfl rfl rfl ?_
                    refine l_nil ?_
                    refine c_cond rfl (fun h9 => ?_) (fun h9 => ?_)
                    · refine c_seq ?_
                      refine c_region ?_
                      refine l_l (light_fa rfl rfl) rfl rfl ?_
                      refine l_x (x_load rfl rfl (at_own (by repeat (first | exact .head _ | refine .tail _ ?_ | refine List.mem_append_right _ ?_)) (by rfl))) rfl rfl ?_
                      rintro _ _ ⟨rfl, rfl⟩
                      refine l_x (x_val call_29 rfl (fun w hw => rtwo_fn _ w)) rfl rfl ?_
                      rintro _ _ ⟨rfl, rfl⟩
                      refine l_l (light_cat rfl rfl (by (try simp only [List.length_append, List.length_cons, List.length_nil]); omega)) rfl rfl ?_
                      refine l_l (light_cat rfl rfl (by (try simp only [List.length_append, List.length_cons, List.length_nil]); omega)) rfl rfl ?_
                      refine l_l rfl rfl rfl ?_
                      refine l_l (light_cat rfl rfl (by (try simp only [List.length_append, List.length_cons, List.length_nil]); omega)) rfl rfl ?_
                      refine l_l rfl rfl rfl ?_
                      refine l_nil ?_
                      refine c_ret ?_
                      have hk := h9
                      simp only [beq_iff_eq, decide_eq_true_eq] at hk
                      exact l_end0 (fun _ _ => rets_v rfl) ⟨rfl, congrArg (fun l => Value.string (bs l)) (by simp [txt, restL, aloneL, hk, pickL, flagW, behW])⟩
                    · refine c_seq ?_
                      refine c_region ?_
                      refine l_l rfl rfl rfl ?_
                      refine l_l rfl rfl rfl ?_
                      refine l_nil ?_
                      refine c_cond rfl (fun h10 => ?_) (fun h10 => ?_)
                      · refine c_seq ?_
                        refine c_draw _ [2, 3, 4, 5] (.step true 0 (.step true 1 (.step true 4 (.step true 5 (.step false 2 (.step true 3 (.step false 6 (.step true 7 (.step true 8 .done))))))))) rfl (by kernel_rfl) (by kernel_rfl) (fun _ h => h) ?_
                        refine d_light rfl (light_fa rfl rfl) rfl rfl rfl ?_
                        refine d_load rfl rfl rfl (s_own (by repeat (first | exact .head _ | refine .tail _ ?_ | refine List.mem_append_right _ ?_)) (by rfl)) rfl rfl ?_
                        refine d_light rfl (light_fa rfl rfl) rfl rfl rfl ?_
                        refine d_load rfl rfl rfl (s_own (by repeat (first | exact .head _ | refine .tail _ ?_ | refine List.mem_append_right _ ?_)) (by rfl)) rfl rfl ?_
                        refine d_x rfl (x_val call_30 rfl (fun w hw => rsum_fn _ w)) rfl rfl (by intro _ _ _ hK x hx; obtain ⟨rfl, rfl⟩ := hK; repeat (first | exact hx | exact List.mem_append_left _ hx | refine List.mem_append_right _ ?_ | refine .tail _ ?_)) ?_
                        rintro _ _ ⟨rfl, rfl⟩
                        refine d_light rfl (light_cat rfl rfl (by (try simp only [List.length_append, List.length_cons, List.length_nil]); omega)) rfl rfl rfl ?_
                        refine d_x rfl (x_val call_28 rfl (fun w hw => rone_fn _ w)) rfl rfl (by intro h; cases h) ?_
                        rintro _ _ ⟨rfl, rfl⟩
                        refine d_light rfl (light_cat rfl rfl (by (try simp only [List.length_append, List.length_cons, List.length_nil]); omega)) rfl rfl rfl ?_
                        refine d_light rfl rfl rfl rfl rfl ?_
                        refine d_nil ?_
                        refine c_ret ?_
                        have hk := h10
                        simp only [beq_iff_eq, decide_eq_true_eq] at hk
                        exact l_end0 (fun _ _ => rets_v rfl) ⟨rfl, congrArg (fun l => Value.string (bs l)) (by simp [txt, restL, aloneL, hk, pickL, flagW, behW])⟩
                      · refine c_seq ?_
                        refine c_region ?_
                        refine l_l rfl rfl rfl ?_
                        refine l_l rfl rfl rfl ?_
                        refine l_nil ?_
                        refine c_cond rfl (fun h11 => ?_) (fun h11 => ?_)
                        · refine c_seq ?_
                          refine c_region ?_
                          refine l_l (light_fa rfl rfl) rfl rfl ?_
                          refine l_x (x_load rfl rfl (at_own (by repeat (first | exact .head _ | refine .tail _ ?_ | refine List.mem_append_right _ ?_)) (by rfl))) rfl rfl ?_
                          rintro _ _ ⟨rfl, rfl⟩
                          refine l_x (x_val call_30 rfl (fun w hw => rsum_fn _ w)) rfl rfl ?_
                          rintro _ _ ⟨rfl, rfl⟩
                          refine l_l (light_cat rfl rfl (by (try simp only [List.length_append, List.length_cons, List.length_nil]); omega)) rfl rfl ?_
                          refine l_l rfl rfl rfl ?_
                          refine l_l (light_cat rfl rfl (by (try simp only [List.length_append, List.length_cons, List.length_nil]); omega)) rfl rfl ?_
                          refine l_l rfl rfl rfl ?_
                          refine l_nil ?_
                          refine c_ret ?_
                          have hk := h11
                          simp only [beq_iff_eq, decide_eq_true_eq] at hk
                          exact l_end0 (fun _ _ => rets_v rfl) ⟨rfl, congrArg (fun l => Value.string (bs l)) (by simp [txt, restL, aloneL, hk, pickL, flagW, behW])⟩
                        · refine c_seq ?_
                          refine c_region ?_
                          refine l_l rfl rfl rfl ?_
                          refine l_l rfl rfl rfl ?_
                          refine l_nil ?_
                          refine c_cond rfl (fun h12 => ?_) (fun h12 => ?_)
                          · refine c_seq ?_
                            refine c_region ?_
                            refine l_l (light_fa rfl rfl) rfl rfl ?_
                            refine l_x (x_load rfl rfl (at_own (by repeat (first | exact .head _ | refine .tail _ ?_ | refine List.mem_append_right _ ?_)) (by rfl))) rfl rfl ?_
                            rintro _ _ ⟨rfl, rfl⟩
                            refine l_x (x_val call_28 rfl (fun w hw => rone_fn _ w)) rfl rfl ?_
                            rintro _ _ ⟨rfl, rfl⟩
                            refine l_l (light_cat rfl rfl (by (try simp only [List.length_append, List.length_cons, List.length_nil]); omega)) rfl rfl ?_
                            refine l_l rfl rfl rfl ?_
                            refine l_nil ?_
                            refine c_ret ?_
                            have hk := h12
                            simp only [beq_iff_eq, decide_eq_true_eq] at hk
                            exact l_end0 (fun _ _ => rets_v rfl) ⟨rfl, congrArg (fun l => Value.string (bs l)) (by simp [txt, restL, aloneL, hk, pickL, flagW, behW])⟩
                          · refine c_seq ?_
                            refine c_region ?_
                            refine l_l rfl rfl rfl ?_
                            refine l_l rfl rfl rfl ?_
                            refine l_nil ?_
                            refine c_cond rfl (fun h13 => ?_) (fun h13 => ?_)
                            · refine c_seq ?_
                              refine c_region ?_
                              refine l_l (light_fa rfl rfl) rfl rfl ?_
                              refine l_x (x_load rfl rfl (at_own (by repeat (first | exact .head _ | refine .tail _ ?_ | refine List.mem_append_right _ ?_)) (by rfl))) rfl rfl ?_
                              rintro _ _ ⟨rfl, rfl⟩
                              refine l_x (x_val call_28 rfl (fun w hw => rone_fn _ w)) rfl rfl ?_
                              rintro _ _ ⟨rfl, rfl⟩
                              refine l_l (light_cat rfl rfl (by (try simp only [List.length_append, List.length_cons, List.length_nil]); omega)) rfl rfl ?_
                              refine l_l rfl rfl rfl ?_
                              refine l_nil ?_
                              refine c_ret ?_
                              have hk := h13
                              simp only [beq_iff_eq, decide_eq_true_eq] at hk
                              exact l_end0 (fun _ _ => rets_v rfl) ⟨rfl, congrArg (fun l => Value.string (bs l)) (by simp [txt, restL, aloneL, hk, pickL, flagW, behW])⟩
                            · refine c_seq ?_
                              refine c_region ?_
                              refine l_l rfl rfl rfl ?_
                              refine l_l rfl rfl rfl ?_
                              refine l_nil ?_
                              refine c_cond rfl (fun h14 => ?_) (fun h14 => ?_)
                              · refine c_seq ?_
                                refine c_region ?_
                                refine l_l (light_fa rfl rfl) rfl rfl ?_
                                refine l_x (x_load rfl rfl (at_own (by repeat (first | exact .head _ | refine .tail _ ?_ | refine List.mem_append_right _ ?_)) (by rfl))) rfl rfl ?_
                                rintro _ _ ⟨rfl, rfl⟩
                                refine l_x (x_val call_29 rfl (fun w hw => rtwo_fn _ w)) rfl rfl ?_
                                rintro _ _ ⟨rfl, rfl⟩
                                refine l_l (light_cat rfl rfl (by (try simp only [List.length_append, List.length_cons, List.length_nil]); omega)) rfl rfl ?_
                                refine l_l rfl rfl rfl ?_
                                refine l_nil ?_
                                refine c_ret ?_
                                have hk := h14
                                simp only [beq_iff_eq, decide_eq_true_eq] at hk
                                exact l_end0 (fun _ _ => rets_v rfl) ⟨rfl, congrArg (fun l => Value.string (bs l)) (by simp [txt, restL, aloneL, hk, pickL, flagW, behW])⟩
                              · refine c_seq ?_
                                refine c_region ?_
                                refine l_l rfl rfl rfl ?_
                                refine l_l rfl rfl rfl ?_
                                refine l_nil ?_
                                refine c_cond rfl (fun h15 => ?_) (fun h15 => ?_)
                                · refine c_seq ?_
                                  refine c_region ?_
                                  refine l_l (light_fa rfl rfl) rfl rfl ?_
                                  refine l_x (x_load rfl rfl (at_own (by repeat (first | exact .head _ | refine .tail _ ?_ | refine List.mem_append_right _ ?_)) (by rfl))) rfl rfl ?_
                                  rintro _ _ ⟨rfl, rfl⟩
                                  refine l_x (x_val call_29 rfl (fun w hw => rtwo_fn _ w)) rfl rfl ?_
                                  rintro _ _ ⟨rfl, rfl⟩
                                  refine l_l (light_cat rfl rfl (by (try simp only [List.length_append, List.length_cons, List.length_nil]); omega)) rfl rfl ?_
                                  refine l_l rfl rfl rfl ?_
                                  refine l_nil ?_
                                  refine c_ret ?_
                                  have hk := h15
                                  simp only [beq_iff_eq, decide_eq_true_eq] at hk
                                  exact l_end0 (fun _ _ => rets_v rfl) ⟨rfl, congrArg (fun l => Value.string (bs l)) (by simp [txt, restL, aloneL, hk, pickL, flagW, behW])⟩
                                · refine c_seq ?_
                                  refine c_region ?_
                                  refine l_l rfl rfl rfl ?_
                                  refine l_l rfl rfl rfl ?_
                                  refine l_nil ?_
                                  refine c_cond rfl (fun h16 => ?_) (fun h16 => ?_)
                                  · refine c_seq ?_
                                    refine c_region ?_
                                    refine l_l (light_fa rfl rfl) rfl rfl ?_
                                    refine l_x (x_load rfl rfl (at_own (by repeat (first | exact .head _ | refine .tail _ ?_ | refine List.mem_append_right _ ?_)) (by rfl))) rfl rfl ?_
                                    rintro _ _ ⟨rfl, rfl⟩
                                    refine l_x (x_val call_29 rfl (fun w hw => rtwo_fn _ w)) rfl rfl ?_
                                    rintro _ _ ⟨rfl, rfl⟩
                                    refine l_l (light_cat rfl rfl (by (try simp only [List.length_append, List.length_cons, List.length_nil]); omega)) rfl rfl ?_
                                    refine l_l rfl rfl rfl ?_
                                    refine l_nil ?_
                                    refine c_ret ?_
                                    have hk := h16
                                    simp only [beq_iff_eq, decide_eq_true_eq] at hk
                                    exact l_end0 (fun _ _ => rets_v rfl) ⟨rfl, congrArg (fun l => Value.string (bs l)) (by simp [txt, restL, aloneL, hk, pickL, flagW, behW])⟩
                                  · refine c_seq ?_
                                    refine c_region ?_
                                    refine l_l rfl rfl rfl ?_
                                    refine l_l rfl rfl rfl ?_
                                    refine l_nil ?_
                                    refine c_cond rfl (fun h17 => ?_) (fun h17 => ?_)
                                    · refine c_seq ?_
                                      refine c_draw _ [2, 3, 4, 5] (.step true 0 (.step true 1 (.step true 4 (.step true 5 (.step false 2 (.step true 3 (.step false 6 (.step true 7 (.step true 8 .done))))))))) rfl (by kernel_rfl) (by kernel_rfl) (fun _ h => h) ?_
                                      refine d_light rfl (light_fa rfl rfl) rfl rfl rfl ?_
                                      refine d_load rfl rfl rfl (s_own (by repeat (first | exact .head _ | refine .tail _ ?_ | refine List.mem_append_right _ ?_)) (by rfl)) rfl rfl ?_
                                      refine d_light rfl (light_fa rfl rfl) rfl rfl rfl ?_
                                      refine d_load rfl rfl rfl (s_own (by repeat (first | exact .head _ | refine .tail _ ?_ | refine List.mem_append_right _ ?_)) (by rfl)) rfl rfl ?_
                                      refine d_x rfl (x_val call_31 rfl (fun w hw => rturn_fn _ w)) rfl rfl (by intro _ _ _ hK x hx; obtain ⟨rfl, rfl⟩ := hK; repeat (first | exact hx | exact List.mem_append_left _ hx | refine List.mem_append_right _ ?_ | refine .tail _ ?_)) ?_
                                      rintro _ _ ⟨rfl, rfl⟩
                                      refine d_light rfl (light_cat rfl rfl (by (try simp only [List.length_append, List.length_cons, List.length_nil]); omega)) rfl rfl rfl ?_
                                      refine d_x rfl (x_val call_28 rfl (fun w hw => rone_fn _ w)) rfl rfl (by intro h; cases h) ?_
                                      rintro _ _ ⟨rfl, rfl⟩
                                      refine d_light rfl (light_cat rfl rfl (by (try simp only [List.length_append, List.length_cons, List.length_nil]); omega)) rfl rfl rfl ?_
                                      refine d_light rfl rfl rfl rfl rfl ?_
                                      refine d_nil ?_
                                      refine c_ret ?_
                                      have hk := h17
                                      simp only [beq_iff_eq, decide_eq_true_eq] at hk
                                      exact l_end0 (fun _ _ => rets_v rfl) ⟨rfl, congrArg (fun l => Value.string (bs l)) (by simp [txt, restL, aloneL, hk, pickL, flagW, behW])⟩
                                    · refine c_seq ?_
                                      refine c_region ?_
                                      refine l_l rfl rfl rfl ?_
                                      refine l_l rfl rfl rfl ?_
                                      refine l_nil ?_
                                      refine c_cond rfl (fun h18 => ?_) (fun h18 => ?_)
                                      · refine c_seq ?_
                                        refine c_region ?_
                                        refine l_l (light_fa rfl rfl) rfl rfl ?_
                                        refine l_x (x_load rfl rfl (at_own (by repeat (first | exact .head _ | refine .tail _ ?_ | refine List.mem_append_right _ ?_)) (by rfl))) rfl rfl ?_
                                        rintro _ _ ⟨rfl, rfl⟩
                                        refine l_x (x_slc (z := [.string (bs [])]) (l := [.string (bs [114, 108, 99, 97]), .string (bs [114, 114, 99, 97]), .string (bs [114, 108, 97]), .string (bs [114, 114, 97])]) (ps := [(0, .string (bs [114, 108, 99, 97])), (1, .string (bs [114, 114, 99, 97])), (2, .string (bs [114, 108, 97])), (3, .string (bs [114, 114, 97]))]) rfl rfl rfl rfl (by kernel_rfl) (by kernel_rfl)) rfl rfl ?_
                                        rintro _ _ ⟨b118, rfl, rfl⟩
                                        refine l_x (x_val call_32 rfl (fun w hw => rpick_fn _ turnaW _ _ (by decide) w (fun _ => ⟨_, 0, rfl, row_own (by repeat (first | exact .head _ | refine .tail _ ?_ | refine List.mem_append_right _ ?_)) w hw⟩))) rfl rfl ?_
                                        rintro _ _ ⟨rfl, rfl⟩
                                        refine l_l rfl rfl rfl ?_
                                        refine l_nil ?_
                                        refine c_ret ?_
                                        have hk := h18
                                        simp only [beq_iff_eq, decide_eq_true_eq] at hk
                                        exact l_end0 (fun _ _ => rets_v rfl) ⟨rfl, congrArg (fun l => Value.string (bs l)) (by simp [txt, restL, aloneL, hk, pickL, flagW, behW])⟩
                                      · refine c_seq ?_
                                        refine c_region ?_
                                        refine l_l rfl rfl rfl ?_
                                        refine l_l rfl rfl rfl ?_
                                        refine l_nil ?_
                                        refine c_cond rfl (fun h19 => ?_) (fun h19 => ?_)
                                        · refine c_seq ?_
                                          refine c_region ?_
                                          refine l_l rfl rfl rfl ?_
                                          refine l_nil ?_
                                          refine c_ret ?_
                                          have hk := h19
                                          simp only [beq_iff_eq, decide_eq_true_eq] at hk
                                          exact l_end0 (fun _ _ => rets_v rfl) ⟨rfl, congrArg (fun l => Value.string (bs l)) (by simp [txt, restL, aloneL, hk, pickL, flagW, behW])⟩
                                        · refine c_seq ?_
                                          refine c_region ?_
                                          refine l_l rfl rfl rfl ?_
                                          refine l_l rfl rfl rfl ?_
                                          refine l_nil ?_
                                          refine c_cond rfl (fun h20 => ?_) (fun h20 => ?_)
                                          · refine c_seq ?_
                                            refine c_region ?_
                                            refine l_l rfl rfl rfl ?_
                                            refine l_nil ?_
                                            refine c_ret ?_
                                            have hk := h20
                                            simp only [beq_iff_eq, decide_eq_true_eq] at hk
                                            exact l_end0 (fun _ _ => rets_v rfl) ⟨rfl, congrArg (fun l => Value.string (bs l)) (by simp [txt, restL, aloneL, hk, pickL, flagW, behW])⟩
                                          · refine c_seq ?_
                                            refine c_region ?_
                                            refine l_l rfl rfl rfl ?_
                                            refine l_l rfl rfl rfl ?_
                                            refine l_nil ?_
                                            refine c_cond rfl (fun h21 => ?_) (fun h21 => ?_)
                                            · refine c_seq ?_
                                              refine c_region ?_
                                              refine l_l rfl rfl rfl ?_
                                              refine l_nil ?_
                                              refine c_ret ?_
                                              have hk := h21
                                              simp only [beq_iff_eq, decide_eq_true_eq] at hk
                                              exact l_end0 (fun _ _ => rets_v rfl) ⟨rfl, congrArg (fun l => Value.string (bs l)) (by simp [txt, restL, aloneL, hk, pickL, flagW, behW])⟩
                                            · refine c_seq ?_
                                              refine c_region ?_
                                              refine l_l rfl rfl rfl ?_
                                              refine l_l rfl rfl rfl ?_
                                              refine l_nil ?_
                                              refine c_cond rfl (fun h22 => ?_) (fun h22 => ?_)
                                              · refine c_seq ?_
                                                refine c_region ?_
                                                refine l_l rfl rfl rfl ?_
                                                refine l_nil ?_
                                                refine c_ret ?_
                                                have hk := h22
                                                simp only [beq_iff_eq, decide_eq_true_eq] at hk
                                                exact l_end0 (fun _ _ => rets_v rfl) ⟨rfl, congrArg (fun l => Value.string (bs l)) (by simp [txt, restL, aloneL, hk, pickL, flagW, behW])⟩
                                              · refine c_seq ?_
                                                refine c_region ?_
                                                refine l_l rfl rfl rfl ?_
                                                refine l_l rfl rfl rfl ?_
                                                refine l_nil ?_
                                                refine c_cond rfl (fun h23 => ?_) (fun h23 => ?_)
                                                · refine c_seq ?_
                                                  refine c_region ?_
                                                  refine l_l (light_fa rfl rfl) rfl rfl ?_
                                                  refine l_x (x_load rfl rfl (at_own (by repeat (first | exact .head _ | refine .tail _ ?_ | refine List.mem_append_right _ ?_)) (by rfl))) rfl rfl ?_
                                                  rintro _ _ ⟨rfl, rfl⟩
                                                  refine l_l rfl rfl rfl ?_
                                                  refine l_x (x_val call_33 rfl (fun w hw => rwhen_fn _ _ _ (by decide) (by first | decide | omega) w)) rfl rfl ?_
                                                  rintro _ _ ⟨rfl, rfl⟩
                                                  refine l_l rfl rfl rfl ?_
                                                  refine l_nil ?_
                                                  refine c_ret ?_
                                                  have hk := h23
                                                  simp only [beq_iff_eq, decide_eq_true_eq] at hk
                                                  exact l_end0 (fun _ _ => rets_v rfl) ⟨rfl, congrArg (fun l => Value.string (bs l)) (by simp [txt, restL, aloneL, hk, pickL, flagW, behW])⟩
                                                · refine c_seq ?_
                                                  refine c_region ?_
                                                  refine l_l rfl rfl rfl ?_
                                                  refine l_l rfl rfl rfl ?_
                                                  refine l_nil ?_
                                                  refine c_cond rfl (fun h24 => ?_) (fun h24 => ?_)
                                                  · refine c_seq ?_
                                                    refine c_region ?_
                                                    refine l_l (light_fa rfl rfl) rfl rfl ?_
                                                    refine l_x (x_load rfl rfl (at_own (by repeat (first | exact .head _ | refine .tail _ ?_ | refine List.mem_append_right _ ?_)) (by rfl))) rfl rfl ?_
                                                    rintro _ _ ⟨rfl, rfl⟩
                                                    refine l_l rfl rfl rfl ?_
                                                    refine l_x (x_val call_33 rfl (fun w hw => rwhen_fn _ _ _ (by decide) (by first | decide | omega) w)) rfl rfl ?_
                                                    rintro _ _ ⟨rfl, rfl⟩
                                                    refine l_l rfl rfl rfl ?_
                                                    refine l_nil ?_
                                                    refine c_ret ?_
                                                    have hk := h24
                                                    simp only [beq_iff_eq, decide_eq_true_eq] at hk
                                                    exact l_end0 (fun _ _ => rets_v rfl) ⟨rfl, congrArg (fun l => Value.string (bs l)) (by simp [txt, restL, aloneL, hk, pickL, flagW, behW])⟩
                                                  · refine c_seq ?_
                                                    refine c_region ?_
                                                    refine l_l rfl rfl rfl ?_
                                                    refine l_l rfl rfl rfl ?_
                                                    refine l_nil ?_
                                                    refine c_cond rfl (fun h25 => ?_) (fun h25 => ?_)
                                                    · refine c_seq ?_
                                                      refine c_region ?_
                                                      refine l_l (light_fa rfl rfl) rfl rfl ?_
                                                      refine l_x (x_load rfl rfl (at_own (by repeat (first | exact .head _ | refine .tail _ ?_ | refine List.mem_append_right _ ?_)) (by rfl))) rfl rfl ?_
                                                      rintro _ _ ⟨rfl, rfl⟩
                                                      refine l_l rfl rfl rfl ?_
                                                      refine l_x (x_val call_33 rfl (fun w hw => rwhen_fn _ _ _ (by decide) (by first | decide | omega) w)) rfl rfl ?_
                                                      rintro _ _ ⟨rfl, rfl⟩
                                                      refine l_l rfl rfl rfl ?_
                                                      refine l_nil ?_
                                                      refine c_ret ?_
                                                      have hk := h25
                                                      simp only [beq_iff_eq, decide_eq_true_eq] at hk
                                                      exact l_end0 (fun _ _ => rets_v rfl) ⟨rfl, congrArg (fun l => Value.string (bs l)) (by simp [txt, restL, aloneL, hk, pickL, flagW, behW])⟩
                                                    · refine c_seq ?_
                                                      refine c_region ?_
                                                      refine l_l rfl rfl rfl ?_
                                                      refine l_l rfl rfl rfl ?_
                                                      refine l_nil ?_
                                                      refine c_cond rfl (fun h26 => ?_) (fun h26 => ?_)
                                                      · refine c_seq ?_
                                                        refine c_region ?_
                                                        refine l_l (light_fa rfl rfl) rfl rfl ?_
                                                        refine l_x (x_load rfl rfl (at_own (by repeat (first | exact .head _ | refine .tail _ ?_ | refine List.mem_append_right _ ?_)) (by rfl))) rfl rfl ?_
                                                        rintro _ _ ⟨rfl, rfl⟩
                                                        refine l_x (x_val call_33 rfl (fun w hw => rwhen_fn _ _ _ (by decide) (by first | decide | omega) w)) rfl rfl ?_
                                                        rintro _ _ ⟨rfl, rfl⟩
                                                        refine l_l rfl rfl rfl ?_
                                                        refine l_nil ?_
                                                        refine c_ret ?_
                                                        have hk := h26
                                                        simp only [beq_iff_eq, decide_eq_true_eq] at hk
                                                        exact l_end0 (fun _ _ => rets_v rfl) ⟨rfl, congrArg (fun l => Value.string (bs l)) (by simp [txt, restL, aloneL, hk, pickL, flagW, behW])⟩
                                                      · refine c_seq ?_
                                                        refine c_region ?_
                                                        refine l_l rfl rfl rfl ?_
                                                        refine l_l rfl rfl rfl ?_
                                                        refine l_nil ?_
                                                        refine c_cond rfl (fun h27 => ?_) (fun h27 => ?_)
                                                        · refine c_seq ?_
                                                          refine c_region ?_
                                                          refine l_l rfl rfl rfl ?_
                                                          refine l_nil ?_
                                                          refine c_ret ?_
                                                          have hk := h27
                                                          simp only [beq_iff_eq, decide_eq_true_eq] at hk
                                                          exact l_end0 (fun _ _ => rets_v rfl) ⟨rfl, congrArg (fun l => Value.string (bs l)) (by simp [txt, restL, aloneL, hk, pickL, flagW, behW])⟩
                                                        · refine c_seq ?_
                                                          refine c_region ?_
                                                          refine l_l rfl rfl rfl ?_
                                                          refine l_l rfl rfl rfl ?_
                                                          refine l_nil ?_
                                                          refine c_cond rfl (fun h28 => ?_) (fun h28 => ?_)
                                                          · refine c_seq ?_
                                                            refine c_region ?_
                                                            refine l_l rfl rfl rfl ?_
                                                            refine l_l (light_cat rfl rfl (by (try simp only [List.length_append, List.length_cons, List.length_nil]); omega)) rfl rfl ?_
                                                            refine l_l rfl rfl rfl ?_
                                                            refine l_nil ?_
                                                            refine c_ret ?_
                                                            have hk := h28
                                                            simp only [beq_iff_eq, decide_eq_true_eq] at hk
                                                            exact l_end0 (fun _ _ => rets_v rfl) ⟨rfl, congrArg (fun l => Value.string (bs l)) (by simp [txt, restL, aloneL, hk, pickL, flagW, behW])⟩
                                                          · refine c_seq ?_
                                                            refine c_region ?_
                                                            refine l_l rfl rfl rfl ?_
                                                            refine l_l rfl rfl rfl ?_
                                                            refine l_nil ?_
                                                            refine c_cond rfl (fun h29 => ?_) (fun h29 => ?_)
                                                            · refine c_seq ?_
                                                              refine c_region ?_
                                                              refine l_l rfl rfl rfl ?_
                                                              refine l_nil ?_
                                                              refine c_ret ?_
                                                              have hk := h29
                                                              simp only [beq_iff_eq, decide_eq_true_eq] at hk
                                                              exact l_end0 (fun _ _ => rets_v rfl) ⟨rfl, congrArg (fun l => Value.string (bs l)) (by simp [txt, restL, aloneL, hk, pickL, flagW, behW])⟩
                                                            · refine c_seq ?_
                                                              refine c_region ?_
                                                              refine l_l rfl rfl rfl ?_
                                                              refine l_l rfl rfl rfl ?_
                                                              refine l_nil ?_
                                                              refine c_cond rfl (fun h30 => ?_) (fun h30 => ?_)
                                                              · refine c_seq ?_
                                                                refine c_region ?_
                                                                refine l_l (light_fa rfl rfl) rfl rfl ?_
                                                                refine l_x (x_load rfl rfl (at_own (by repeat (first | exact .head _ | refine .tail _ ?_ | refine List.mem_append_right _ ?_)) (by rfl))) rfl rfl ?_
                                                                rintro _ _ ⟨rfl, rfl⟩
                                                                refine l_x (x_val call_29 rfl (fun w hw => rtwo_fn _ w)) rfl rfl ?_
                                                                rintro _ _ ⟨rfl, rfl⟩
                                                                refine l_l (light_cat rfl rfl (by (try simp only [List.length_append, List.length_cons, List.length_nil]); omega)) rfl rfl ?_
                                                                refine l_l rfl rfl rfl ?_
                                                                refine l_nil ?_
                                                                refine c_ret ?_
                                                                have hk := h30
                                                                simp only [beq_iff_eq, decide_eq_true_eq] at hk
                                                                exact l_end0 (fun _ _ => rets_v rfl) ⟨rfl, congrArg (fun l => Value.string (bs l)) (by simp [txt, restL, aloneL, hk, pickL, flagW, behW])⟩
                                                              · refine c_seq ?_
                                                                refine c_region ?_
                                                                refine l_l rfl rfl rfl ?_
                                                                refine l_l rfl rfl rfl ?_
                                                                refine l_nil ?_
                                                                refine c_cond rfl (fun h31 => ?_) (fun h31 => ?_)
                                                                · refine c_seq ?_
                                                                  refine c_region ?_
                                                                  refine l_l (light_fa rfl rfl) rfl rfl ?_
                                                                  refine l_x (x_load rfl rfl (at_own (by repeat (first | exact .head _ | refine .tail _ ?_ | refine List.mem_append_right _ ?_)) (by rfl))) rfl rfl ?_
                                                                  rintro _ _ ⟨rfl, rfl⟩
                                                                  refine l_x (x_val call_29 rfl (fun w hw => rtwo_fn _ w)) rfl rfl ?_
                                                                  rintro _ _ ⟨rfl, rfl⟩
                                                                  refine l_l (light_cat rfl rfl (by (try simp only [List.length_append, List.length_cons, List.length_nil]); omega)) rfl rfl ?_
                                                                  refine l_l rfl rfl rfl ?_
                                                                  refine l_nil ?_
                                                                  refine c_ret ?_
                                                                  have hk := h31
                                                                  simp only [beq_iff_eq, decide_eq_true_eq] at hk
                                                                  exact l_end0 (fun _ _ => rets_v rfl) ⟨rfl, congrArg (fun l => Value.string (bs l)) (by simp [txt, restL, aloneL, hk, pickL, flagW, behW])⟩
                                                                · refine c_seq ?_
                                                                  refine c_region ?_
                                                                  refine l_l rfl rfl rfl ?_
                                                                  refine l_l rfl rfl rfl ?_
                                                                  refine l_nil ?_
                                                                  refine c_cond rfl (fun h32 => ?_) (fun h32 => ?_)
                                                                  · refine c_seq ?_
                                                                    refine c_region ?_
                                                                    refine l_l (light_fa rfl rfl) rfl rfl ?_
                                                                    refine l_x (x_load rfl rfl (at_own (by repeat (first | exact .head _ | refine .tail _ ?_ | refine List.mem_append_right _ ?_)) (by rfl))) rfl rfl ?_
                                                                    rintro _ _ ⟨rfl, rfl⟩
                                                                    refine l_x (x_val call_34 rfl (fun w hw => rfar_fn _ w)) rfl rfl ?_
                                                                    rintro _ _ ⟨rfl, rfl⟩
                                                                    refine l_l (light_cat rfl rfl (by (try simp only [List.length_append, List.length_cons, List.length_nil]); omega)) rfl rfl ?_
                                                                    refine l_l rfl rfl rfl ?_
                                                                    refine l_nil ?_
                                                                    refine c_ret ?_
                                                                    have hk := h32
                                                                    simp only [beq_iff_eq, decide_eq_true_eq] at hk
                                                                    exact l_end0 (fun _ _ => rets_v rfl) ⟨rfl, congrArg (fun l => Value.string (bs l)) (by simp [txt, restL, aloneL, hk, pickL, flagW, behW])⟩
                                                                  · refine c_seq ?_
                                                                    refine c_region ?_
                                                                    refine l_l rfl rfl rfl ?_
                                                                    refine l_l rfl rfl rfl ?_
                                                                    refine l_nil ?_
                                                                    refine c_cond rfl (fun h33 => ?_) (fun h33 => ?_)
                                                                    · refine c_seq ?_
                                                                      refine c_region ?_
                                                                      refine l_l (light_fa rfl rfl) rfl rfl ?_
                                                                      refine l_x (x_load rfl rfl (at_own (by repeat (first | exact .head _ | refine .tail _ ?_ | refine List.mem_append_right _ ?_)) (by rfl))) rfl rfl ?_
                                                                      rintro _ _ ⟨rfl, rfl⟩
                                                                      refine l_x (x_val call_34 rfl (fun w hw => rfar_fn _ w)) rfl rfl ?_
                                                                      rintro _ _ ⟨rfl, rfl⟩
                                                                      refine l_l (light_cat rfl rfl (by (try simp only [List.length_append, List.length_cons, List.length_nil]); omega)) rfl rfl ?_
                                                                      refine l_l (light_cat rfl rfl (by (try simp only [List.length_append, List.length_cons, List.length_nil]); omega)) rfl rfl ?_
                                                                      refine l_l rfl rfl rfl ?_
                                                                      refine l_nil ?_
                                                                      refine c_ret ?_
                                                                      have hk := h33
                                                                      simp only [beq_iff_eq, decide_eq_true_eq] at hk
                                                                      exact l_end0 (fun _ _ => rets_v rfl) ⟨rfl, congrArg (fun l => Value.string (bs l)) (by simp [txt, restL, aloneL, hk, pickL, flagW, behW])⟩
                                                                    · refine c_seq ?_
                                                                      refine c_region ?_
                                                                      refine l_l rfl rfl rfl ?_
                                                                      refine l_l rfl rfl rfl ?_
                                                                      refine l_nil ?_
                                                                      refine c_cond rfl (fun h34 => ?_) (fun h34 => ?_)
                                                                      · refine c_seq ?_
                                                                        refine c_region ?_
                                                                        refine l_l rfl rfl rfl ?_
                                                                        refine l_l (light_cat rfl rfl (by (try simp only [List.length_append, List.length_cons, List.length_nil]); omega)) rfl rfl ?_
                                                                        refine l_l (light_cat rfl rfl (by (try simp only [List.length_append, List.length_cons, List.length_nil]); omega)) rfl rfl ?_
                                                                        refine l_l rfl rfl rfl ?_
                                                                        refine l_nil ?_
                                                                        refine c_ret ?_
                                                                        have hk := h34
                                                                        simp only [beq_iff_eq, decide_eq_true_eq] at hk
                                                                        exact l_end0 (fun _ _ => rets_v rfl) ⟨rfl, congrArg (fun l => Value.string (bs l)) (by simp [txt, restL, aloneL, hk, pickL, flagW, behW])⟩
                                                                      · refine c_seq ?_
                                                                        refine c_region ?_
                                                                        refine l_l rfl rfl rfl ?_
                                                                        refine l_l rfl rfl rfl ?_
                                                                        refine l_nil ?_
                                                                        refine c_cond rfl (fun h35 => ?_) (fun h35 => ?_)
                                                                        · refine c_seq ?_
                                                                          refine c_region ?_
                                                                          refine l_l rfl rfl rfl ?_
                                                                          refine l_l (light_cat rfl rfl (by (try simp only [List.length_append, List.length_cons, List.length_nil]); omega)) rfl rfl ?_
                                                                          refine l_l (light_cat rfl rfl (by (try simp only [List.length_append, List.length_cons, List.length_nil]); omega)) rfl rfl ?_
                                                                          refine l_l rfl rfl rfl ?_
                                                                          refine l_nil ?_
                                                                          refine c_ret ?_
                                                                          have hk := h35
                                                                          simp only [beq_iff_eq, decide_eq_true_eq] at hk
                                                                          exact l_end0 (fun _ _ => rets_v rfl) ⟨rfl, congrArg (fun l => Value.string (bs l)) (by simp [txt, restL, aloneL, hk, pickL, flagW, behW])⟩
                                                                        · refine c_seq ?_
                                                                          refine c_region ?_
                                                                          refine l_l rfl rfl rfl ?_
                                                                          refine l_l rfl rfl rfl ?_
                                                                          refine l_nil ?_
                                                                          refine c_cond rfl (fun h36 => ?_) (fun h36 => ?_)
                                                                          · refine c_seq ?_
                                                                            refine c_region ?_
                                                                            refine l_l rfl rfl rfl ?_
                                                                            refine l_nil ?_
                                                                            refine c_ret ?_
                                                                            have hk := h36
                                                                            simp only [beq_iff_eq, decide_eq_true_eq] at hk
                                                                            exact l_end0 (fun _ _ => rets_v rfl) ⟨rfl, congrArg (fun l => Value.string (bs l)) (by simp [txt, restL, aloneL, hk, pickL, flagW, behW])⟩
                                                                          · refine c_seq ?_
                                                                            refine c_region ?_
                                                                            refine l_l rfl rfl rfl ?_
                                                                            refine l_l rfl rfl rfl ?_
                                                                            refine l_nil ?_
                                                                            refine c_cond rfl (fun h37 => ?_) (fun h37 => ?_)
                                                                            · refine c_seq ?_
                                                                              refine c_region ?_
                                                                              refine l_l rfl rfl rfl ?_
                                                                              refine l_nil ?_
                                                                              refine c_ret ?_
                                                                              have hk := h37
                                                                              simp only [beq_iff_eq, decide_eq_true_eq] at hk
                                                                              exact l_end0 (fun _ _ => rets_v rfl) ⟨rfl, congrArg (fun l => Value.string (bs l)) (by simp [txt, restL, aloneL, hk, pickL, flagW, behW])⟩
                                                                            · refine c_seq ?_
                                                                              refine c_region ?_
                                                                              refine l_l rfl rfl rfl ?_
                                                                              refine l_l rfl rfl rfl ?_
                                                                              refine l_nil ?_
                                                                              refine c_cond rfl (fun h38 => ?_) (fun h38 => ?_)
                                                                              · refine c_seq ?_
                                                                                refine c_region ?_
                                                                                refine l_l rfl rfl rfl ?_
                                                                                refine l_l (light_cat rfl rfl (by (try simp only [List.length_append, List.length_cons, List.length_nil]); omega)) rfl rfl ?_
                                                                                refine l_l (light_cat rfl rfl (by (try simp only [List.length_append, List.length_cons, List.length_nil]); omega)) rfl rfl ?_
                                                                                refine l_l rfl rfl rfl ?_
                                                                                refine l_nil ?_
                                                                                refine c_ret ?_
                                                                                have hk := h38
                                                                                simp only [beq_iff_eq, decide_eq_true_eq] at hk
                                                                                exact l_end0 (fun _ _ => rets_v rfl) ⟨rfl, congrArg (fun l => Value.string (bs l)) (by simp [txt, restL, aloneL, hk, pickL, flagW, behW])⟩
                                                                              · refine c_seq ?_
                                                                                refine c_region ?_
                                                                                refine l_l rfl rfl rfl ?_
                                                                                refine l_l rfl rfl rfl ?_
                                                                                refine l_nil ?_
                                                                                refine c_cond rfl (fun h39 => ?_) (fun h39 => ?_)
                                                                                · refine c_seq ?_
                                                                                  refine c_region ?_
                                                                                  refine l_l rfl rfl rfl ?_
                                                                                  refine l_l (light_cat rfl rfl (by (try simp only [List.length_append, List.length_cons, List.length_nil]); omega)) rfl rfl ?_
                                                                                  refine l_l (light_cat rfl rfl (by (try simp only [List.length_append, List.length_cons, List.length_nil]); omega)) rfl rfl ?_
                                                                                  refine l_l rfl rfl rfl ?_
                                                                                  refine l_nil ?_
                                                                                  refine c_ret ?_
                                                                                  have hk := h39
                                                                                  simp only [beq_iff_eq, decide_eq_true_eq] at hk
                                                                                  exact l_end0 (fun _ _ => rets_v rfl) ⟨rfl, congrArg (fun l => Value.string (bs l)) (by simp [txt, restL, aloneL, hk, pickL, flagW, behW])⟩
                                                                                · refine c_seq ?_
                                                                                  refine c_region ?_
                                                                                  refine l_l rfl rfl rfl ?_
                                                                                  refine l_l rfl rfl rfl ?_
                                                                                  refine l_nil ?_
                                                                                  refine c_cond rfl (fun h40 => ?_) (fun h40 => ?_)
                                                                                  · refine c_seq ?_
                                                                                    refine c_region ?_
                                                                                    refine l_l rfl rfl rfl ?_
                                                                                    refine l_l (light_cat rfl rfl (by (try simp only [List.length_append, List.length_cons, List.length_nil]); omega)) rfl rfl ?_
                                                                                    refine l_l (light_cat rfl rfl (by (try simp only [List.length_append, List.length_cons, List.length_nil]); omega)) rfl rfl ?_
                                                                                    refine l_l rfl rfl rfl ?_
                                                                                    refine l_nil ?_
                                                                                    refine c_ret ?_
                                                                                    have hk := h40
                                                                                    simp only [beq_iff_eq, decide_eq_true_eq] at hk
                                                                                    exact l_end0 (fun _ _ => rets_v rfl) ⟨rfl, congrArg (fun l => Value.string (bs l)) (by simp [txt, restL, aloneL, hk, pickL, flagW, behW])⟩
                                                                                  · refine c_seq ?_
                                                                                    refine c_region ?_
                                                                                    refine l_l rfl rfl rfl ?_
                                                                                    refine l_l rfl rfl rfl ?_
                                                                                    refine l_nil ?_
                                                                                    refine c_cond rfl (fun h41 => ?_) (fun h41 => ?_)
                                                                                    · refine c_seq ?_
                                                                                      refine c_region ?_
                                                                                      refine l_l rfl rfl rfl ?_
                                                                                      refine l_l (light_cat rfl rfl (by (try simp only [List.length_append, List.length_cons, List.length_nil]); omega)) rfl rfl ?_
                                                                                      refine l_l rfl rfl rfl ?_
                                                                                      refine l_nil ?_
                                                                                      refine c_ret ?_
                                                                                      have hk := h41
                                                                                      simp only [beq_iff_eq, decide_eq_true_eq] at hk
                                                                                      exact l_end0 (fun _ _ => rets_v rfl) ⟨rfl, congrArg (fun l => Value.string (bs l)) (by simp [txt, restL, aloneL, hk, pickL, flagW, behW])⟩
                                                                                    · refine c_seq ?_
                                                                                      refine c_region ?_
                                                                                      refine l_l rfl rfl rfl ?_
                                                                                      refine l_l rfl rfl rfl ?_
                                                                                      refine l_nil ?_
                                                                                      refine c_cond rfl (fun h42 => ?_) (fun h42 => ?_)
                                                                                      · refine c_seq ?_
                                                                                        refine c_region ?_
                                                                                        refine l_l rfl rfl rfl ?_
                                                                                        refine l_l (light_cat rfl rfl (by (try simp only [List.length_append, List.length_cons, List.length_nil]); omega)) rfl rfl ?_
                                                                                        refine l_l rfl rfl rfl ?_
                                                                                        refine l_nil ?_
                                                                                        refine c_ret ?_
                                                                                        have hk := h42
                                                                                        simp only [beq_iff_eq, decide_eq_true_eq] at hk
                                                                                        exact l_end0 (fun _ _ => rets_v rfl) ⟨rfl, congrArg (fun l => Value.string (bs l)) (by simp [txt, restL, aloneL, hk, pickL, flagW, behW])⟩
                                                                                      · refine c_seq ?_
                                                                                        refine c_region ?_
                                                                                        refine l_l rfl rfl rfl ?_
                                                                                        refine l_l rfl rfl rfl ?_
                                                                                        refine l_nil ?_
                                                                                        refine c_cond rfl (fun h43 => ?_) (fun h43 => ?_)
                                                                                        · refine c_seq ?_
                                                                                          refine c_region ?_
                                                                                          refine l_l rfl rfl rfl ?_
                                                                                          refine l_nil ?_
                                                                                          refine c_ret ?_
                                                                                          have hk := h43
                                                                                          simp only [beq_iff_eq, decide_eq_true_eq] at hk
                                                                                          exact l_end0 (fun _ _ => rets_v rfl) ⟨rfl, congrArg (fun l => Value.string (bs l)) (by simp [txt, restL, aloneL, hk, pickL, flagW, behW])⟩
                                                                                        · refine c_seq ?_
                                                                                          refine c_region ?_
                                                                                          refine l_l rfl rfl rfl ?_
                                                                                          refine l_l rfl rfl rfl ?_
                                                                                          refine l_nil ?_
                                                                                          refine c_cond rfl (fun h44 => ?_) (fun h44 => ?_)
                                                                                          · refine c_seq ?_
                                                                                            refine c_draw _ [2, 3, 4, 5, 6] (.step true 0 (.step true 1 (.step true 5 (.step true 6 (.step false 2 (.step true 3 (.step true 4 (.step false 7 (.step true 8 (.step true 9 .done)))))))))) rfl (by kernel_rfl) (by kernel_rfl) (fun _ h => h) ?_
                                                                                            refine d_light rfl (light_fa rfl rfl) rfl rfl rfl ?_
                                                                                            refine d_load rfl rfl rfl (s_own (by repeat (first | exact .head _ | refine .tail _ ?_ | refine List.mem_append_right _ ?_)) (by rfl)) rfl rfl ?_
                                                                                            refine d_light rfl (light_fa rfl rfl) rfl rfl rfl ?_
                                                                                            refine d_load rfl rfl rfl (s_own (by repeat (first | exact .head _ | refine .tail _ ?_ | refine List.mem_append_right _ ?_)) (by rfl)) rfl rfl ?_
                                                                                            refine d_x rfl (x_val call_35 rfl (fun w hw => rbits_fn _ w)) rfl rfl (by intro _ _ _ hK x hx; obtain ⟨rfl, rfl⟩ := hK; repeat (first | exact hx | exact List.mem_append_left _ hx | refine List.mem_append_right _ ?_ | refine .tail _ ?_)) ?_
                                                                                            rintro _ _ ⟨rfl, rfl⟩
                                                                                            refine d_light rfl (light_cat rfl rfl (by (try simp only [List.length_append, List.length_cons, List.length_nil]); omega)) rfl rfl rfl ?_
                                                                                            refine d_light rfl (light_cat rfl rfl (by (try simp only [List.length_append, List.length_cons, List.length_nil]); omega)) rfl rfl rfl ?_
                                                                                            refine d_x rfl (x_val call_28 rfl (fun w hw => rone_fn _ w)) rfl rfl (by intro h; cases h) ?_
                                                                                            rintro _ _ ⟨rfl, rfl⟩
                                                                                            refine d_light rfl (light_cat rfl rfl (by (try simp only [List.length_append, List.length_cons, List.length_nil]); omega)) rfl rfl rfl ?_
                                                                                            refine d_light rfl rfl rfl rfl rfl ?_
                                                                                            refine d_nil ?_
                                                                                            refine c_ret ?_
                                                                                            have hk := h44
                                                                                            simp only [beq_iff_eq, decide_eq_true_eq] at hk
                                                                                            exact l_end0 (fun _ _ => rets_v rfl) ⟨rfl, congrArg (fun l => Value.string (bs l)) (by simp [txt, restL, aloneL, hk, pickL, flagW, behW])⟩
                                                                                          · refine c_seq ?_
                                                                                            refine c_region ?_
                                                                                            refine l_l rfl rfl rfl ?_
                                                                                            refine l_l rfl rfl rfl ?_
                                                                                            refine l_nil ?_
                                                                                            refine c_cond rfl (fun h45 => ?_) (fun h45 => ?_)
                                                                                            · refine c_seq ?_
                                                                                              refine c_draw _ [2, 3, 4, 5, 6] (.step true 0 (.step true 1 (.step true 5 (.step true 6 (.step false 2 (.step true 3 (.step true 4 (.step false 7 (.step true 8 (.step true 9 .done)))))))))) rfl (by kernel_rfl) (by kernel_rfl) (fun _ h => h) ?_
                                                                                              refine d_light rfl (light_fa rfl rfl) rfl rfl rfl ?_
                                                                                              refine d_load rfl rfl rfl (s_own (by repeat (first | exact .head _ | refine .tail _ ?_ | refine List.mem_append_right _ ?_)) (by rfl)) rfl rfl ?_
                                                                                              refine d_light rfl (light_fa rfl rfl) rfl rfl rfl ?_
                                                                                              refine d_load rfl rfl rfl (s_own (by repeat (first | exact .head _ | refine .tail _ ?_ | refine List.mem_append_right _ ?_)) (by rfl)) rfl rfl ?_
                                                                                              refine d_x rfl (x_val call_35 rfl (fun w hw => rbits_fn _ w)) rfl rfl (by intro _ _ _ hK x hx; obtain ⟨rfl, rfl⟩ := hK; repeat (first | exact hx | exact List.mem_append_left _ hx | refine List.mem_append_right _ ?_ | refine .tail _ ?_)) ?_
                                                                                              rintro _ _ ⟨rfl, rfl⟩
                                                                                              refine d_light rfl (light_cat rfl rfl (by (try simp only [List.length_append, List.length_cons, List.length_nil]); omega)) rfl rfl rfl ?_
                                                                                              refine d_light rfl (light_cat rfl rfl (by (try simp only [List.length_append, List.length_cons, List.length_nil]); omega)) rfl rfl rfl ?_
                                                                                              refine d_x rfl (x_val call_28 rfl (fun w hw => rone_fn _ w)) rfl rfl (by intro h; cases h) ?_
                                                                                              rintro _ _ ⟨rfl, rfl⟩
                                                                                              refine d_light rfl (light_cat rfl rfl (by (try simp only [List.length_append, List.length_cons, List.length_nil]); omega)) rfl rfl rfl ?_
                                                                                              refine d_light rfl rfl rfl rfl rfl ?_
                                                                                              refine d_nil ?_
                                                                                              refine c_ret ?_
                                                                                              have hk := h45
                                                                                              simp only [beq_iff_eq, decide_eq_true_eq] at hk
                                                                                              exact l_end0 (fun _ _ => rets_v rfl) ⟨rfl, congrArg (fun l => Value.string (bs l)) (by simp [txt, restL, aloneL, hk, pickL, flagW, behW])⟩
                                                                                            · refine c_seq ?_
                                                                                              refine c_region ?_
                                                                                              refine l_l rfl rfl rfl ?_
                                                                                              refine l_l rfl rfl rfl ?_
                                                                                              refine l_nil ?_
                                                                                              refine c_cond rfl (fun h46 => ?_) (fun h46 => ?_)
                                                                                              · refine c_seq ?_
                                                                                                refine c_draw _ [2, 3, 4, 5, 6] (.step true 0 (.step true 1 (.step true 5 (.step true 6 (.step false 2 (.step true 3 (.step true 4 (.step false 7 (.step true 8 (.step true 9 .done)))))))))) rfl (by kernel_rfl) (by kernel_rfl) (fun _ h => h) ?_
                                                                                                refine d_light rfl (light_fa rfl rfl) rfl rfl rfl ?_
                                                                                                refine d_load rfl rfl rfl (s_own (by repeat (first | exact .head _ | refine .tail _ ?_ | refine List.mem_append_right _ ?_)) (by rfl)) rfl rfl ?_
                                                                                                refine d_light rfl (light_fa rfl rfl) rfl rfl rfl ?_
                                                                                                refine d_load rfl rfl rfl (s_own (by repeat (first | exact .head _ | refine .tail _ ?_ | refine List.mem_append_right _ ?_)) (by rfl)) rfl rfl ?_
                                                                                                refine d_x rfl (x_val call_35 rfl (fun w hw => rbits_fn _ w)) rfl rfl (by intro _ _ _ hK x hx; obtain ⟨rfl, rfl⟩ := hK; repeat (first | exact hx | exact List.mem_append_left _ hx | refine List.mem_append_right _ ?_ | refine .tail _ ?_)) ?_
                                                                                                rintro _ _ ⟨rfl, rfl⟩
                                                                                                refine d_light rfl (light_cat rfl rfl (by (try simp only [List.length_append, List.length_cons, List.length_nil]); omega)) rfl rfl rfl ?_
                                                                                                refine d_light rfl (light_cat rfl rfl (by (try simp only [List.length_append, List.length_cons, List.length_nil]); omega)) rfl rfl rfl ?_
                                                                                                refine d_x rfl (x_val call_28 rfl (fun w hw => rone_fn _ w)) rfl rfl (by intro h; cases h) ?_
                                                                                                rintro _ _ ⟨rfl, rfl⟩
                                                                                                refine d_light rfl (light_cat rfl rfl (by (try simp only [List.length_append, List.length_cons, List.length_nil]); omega)) rfl rfl rfl ?_
                                                                                                refine d_light rfl rfl rfl rfl rfl ?_
                                                                                                refine d_nil ?_
                                                                                                refine c_ret ?_
                                                                                                have hk := h46
                                                                                                simp only [beq_iff_eq, decide_eq_true_eq] at hk
                                                                                                exact l_end0 (fun _ _ => rets_v rfl) ⟨rfl, congrArg (fun l => Value.string (bs l)) (by simp [txt, restL, aloneL, hk, pickL, flagW, behW])⟩
                                                                                              · refine c_skip ?_
                                                                                                refine c_seq ?_
                                                                                                refine c_region ?_
                                                                                                refine l_l rfl rfl rfl ?_
                                                                                                refine l_nil ?_
                                                                                                refine c_ret ?_
                                                                                                exact l_end0 (fun _ _ => rets_v rfl) ⟨rfl, congrArg (fun l => Value.string (bs l)) (by simp_all [txt, restL, aloneL])⟩

end Go.Proofs.Ytmihilhmdcndfaa
