/- Orders in words. -/
import Derived.Test.YtmihilhmdcndfaaTextA
import Derived.Test.YtmihilhmdcndfaaCalls
namespace Go.Proofs.Ytmihilhmdcndfaa
open Go Go.VV Go.Proofs
set_option linter.unusedSimpArgs false
set_option linter.unusedVariables false
set_option maxRecDepth 100000
theorem rest_fn (o : Opr) (w : World) :
    Does Try.prog 26 [.agg (cO o).toArray, .string (bs (h2 o)), .string (bs (h4 o))] w [] (fun v H => H = [] ∧ v = .string (bs (restL o))) := by
  have q1 := one_len o.x; have q2 := one_len o.y; have q3 := two_len o.x; have q4 := far_len o.x; have q5 := sum_len o.x; have q6 := bit_len o.x; have q7 := turn_len o.x; have q8 := turna_len o.x; have q9 := hexL_len o.n.toNat 2; have q0 := hexL_len o.n.toNat 4; have qb := beh_len (o.kind - 44); have qh2 : (h2 o).length = 2 := hexL_len _ _; have qh4 : (h4 o).length = 4 := hexL_len _ _
  refine does_of Try.func26 rfl rfl rfl (St.refl w) ?_
  refine c_seq ?_
  refine c_region ?_
  refine l_x (x_box rfl rfl) rfl rfl ?_
  rintro _ _ ⟨b3, rfl, rfl⟩
  refine l_l rfl rfl rfl ?_
  refine l_nil ?_
  refine c_seq ?_
  refine c_seq ?_
  refine c_region ?_
  refine l_l (light_fa rfl rfl) rfl rfl ?_
  refine l_x (x_load rfl rfl (at_own (by repeat (first | exact .head _ | refine .tail _ ?_ | refine List.mem_append_right _ ?_)) (by rfl))) rfl rfl ?_
  rintro _ _ ⟨rfl, rfl⟩
  refine l_nil ?_
  refine c_block ?_
  refine c_seq ?_
  refine c_region ?_
  refine l_l rfl rfl rfl ?_
  refine l_l rfl rfl rfl ?_
  refine l_nil ?_
  refine c_cond rfl (fun h1 => ?_) (fun h1 => ?_)
  · refine c_seq ?_
    refine c_region ?_
    refine l_l rfl rfl rfl ?_
    refine l_l (light_cat rfl rfl (by (try simp only [List.length_append, List.length_cons, List.length_nil]); omega)) rfl rfl ?_
    refine l_l rfl rfl rfl ?_
    refine l_nil ?_
    refine c_ret ?_
    have hk := h1
    simp only [beq_iff_eq, decide_eq_true_eq] at hk
    exact l_end0 (fun _ _ => rets_v rfl) ⟨rfl, congrArg (fun l => Value.string (bs l)) (by first | (simp [restL, hk]; done) | (simp_all [restL]; done))⟩
  · refine c_seq ?_
    refine c_region ?_
    refine l_l rfl rfl rfl ?_
    refine l_l rfl rfl rfl ?_
    refine l_nil ?_
    refine c_cond rfl (fun h2 => ?_) (fun h2 => ?_)
    · refine c_seq ?_
      refine c_region ?_
      refine l_l (light_fa rfl rfl) rfl rfl ?_
      refine l_x (x_load rfl rfl (at_own (by repeat (first | exact .head _ | refine .tail _ ?_ | refine List.mem_append_right _ ?_)) (by rfl))) rfl rfl ?_
      rintro _ _ ⟨rfl, rfl⟩
      refine l_x (x_val call_22 rfl (fun w hw => two_fn _ w)) rfl rfl ?_
      rintro _ _ ⟨rfl, rfl⟩
      refine l_l (light_cat rfl rfl (by (try simp only [List.length_append, List.length_cons, List.length_nil]); omega)) rfl rfl ?_
      refine l_l rfl rfl rfl ?_
      refine l_nil ?_
      refine c_ret ?_
      have hk := h2
      simp only [beq_iff_eq, decide_eq_true_eq] at hk
      exact l_end0 (fun _ _ => rets_v rfl) ⟨rfl, congrArg (fun l => Value.string (bs l)) (by first | (simp [restL, hk]; done) | (simp_all [restL]; done))⟩
    · refine c_seq ?_
      refine c_region ?_
      refine l_l rfl rfl rfl ?_
      refine l_l rfl rfl rfl ?_
      refine l_nil ?_
      refine c_cond rfl (fun h3 => ?_) (fun h3 => ?_)
      · refine c_seq ?_
        refine c_region ?_
        refine l_l (light_fa rfl rfl) rfl rfl ?_
        refine l_x (x_load rfl rfl (at_own (by repeat (first | exact .head _ | refine .tail _ ?_ | refine List.mem_append_right _ ?_)) (by rfl))) rfl rfl ?_
        rintro _ _ ⟨rfl, rfl⟩
        refine l_x (x_val call_22 rfl (fun w hw => two_fn _ w)) rfl rfl ?_
        rintro _ _ ⟨rfl, rfl⟩
        refine l_l (light_cat rfl rfl (by (try simp only [List.length_append, List.length_cons, List.length_nil]); omega)) rfl rfl ?_
        refine l_l rfl rfl rfl ?_
        refine l_nil ?_
        refine c_ret ?_
        have hk := h3
        simp only [beq_iff_eq, decide_eq_true_eq] at hk
        exact l_end0 (fun _ _ => rets_v rfl) ⟨rfl, congrArg (fun l => Value.string (bs l)) (by first | (simp [restL, hk]; done) | (simp_all [restL]; done))⟩
      · refine c_seq ?_
        refine c_region ?_
        refine l_l rfl rfl rfl ?_
        refine l_l rfl rfl rfl ?_
        refine l_nil ?_
        refine c_cond rfl (fun h4 => ?_) (fun h4 => ?_)
        · refine c_seq ?_
          refine c_region ?_
          refine l_l (light_fa rfl rfl) rfl rfl ?_
          refine l_x (x_load rfl rfl (at_own (by repeat (first | exact .head _ | refine .tail _ ?_ | refine List.mem_append_right _ ?_)) (by rfl))) rfl rfl ?_
          rintro _ _ ⟨rfl, rfl⟩
          refine l_x (x_val call_41 rfl (fun w hw => far_fn _ w)) rfl rfl ?_
          rintro _ _ ⟨rfl, rfl⟩
          refine l_l (light_cat rfl rfl (by (try simp only [List.length_append, List.length_cons, List.length_nil]); omega)) rfl rfl ?_
          refine l_l rfl rfl rfl ?_
          refine l_nil ?_
          refine c_ret ?_
          have hk := h4
          simp only [beq_iff_eq, decide_eq_true_eq] at hk
          exact l_end0 (fun _ _ => rets_v rfl) ⟨rfl, congrArg (fun l => Value.string (bs l)) (by first | (simp [restL, hk]; done) | (simp_all [restL]; done))⟩
        · refine c_seq ?_
          refine c_region ?_
          refine l_l rfl rfl rfl ?_
          refine l_l rfl rfl rfl ?_
          refine l_nil ?_
          refine c_cond rfl (fun h5 => ?_) (fun h5 => ?_)
          · refine c_seq ?_
            refine c_region ?_
            refine l_l (light_fa rfl rfl) rfl rfl ?_
            refine l_x (x_load rfl rfl (at_own (by repeat (first | exact .head _ | refine .tail _ ?_ | refine List.mem_append_right _ ?_)) (by rfl))) rfl rfl ?_
            rintro _ _ ⟨rfl, rfl⟩
            refine l_x (x_val call_41 rfl (fun w hw => far_fn _ w)) rfl rfl ?_
            rintro _ _ ⟨rfl, rfl⟩
            refine l_l (light_cat rfl rfl (by (try simp only [List.length_append, List.length_cons, List.length_nil]); omega)) rfl rfl ?_
            refine l_l (light_cat rfl rfl (by (try simp only [List.length_append, List.length_cons, List.length_nil]); omega)) rfl rfl ?_
            refine l_l rfl rfl rfl ?_
            refine l_nil ?_
            refine c_ret ?_
            have hk := h5
            simp only [beq_iff_eq, decide_eq_true_eq] at hk
            exact l_end0 (fun _ _ => rets_v rfl) ⟨rfl, congrArg (fun l => Value.string (bs l)) (by first | (simp [restL, hk]; done) | (simp_all [restL]; done))⟩
          · refine c_seq ?_
            refine c_region ?_
            refine l_l rfl rfl rfl ?_
            refine l_l rfl rfl rfl ?_
            refine l_nil ?_
            refine c_cond rfl (fun h6 => ?_) (fun h6 => ?_)
            · refine c_seq ?_
              refine c_region ?_
              refine l_l rfl rfl rfl ?_
              refine l_l (light_cat rfl rfl (by (try simp only [List.length_append, List.length_cons, List.length_nil]); omega)) rfl rfl ?_
              refine l_l (light_cat rfl rfl (by (try simp only [List.length_append, List.length_cons, List.length_nil]); omega)) rfl rfl ?_
              refine l_l rfl rfl rfl ?_
              refine l_nil ?_
              refine c_ret ?_
              have hk := h6
              simp only [beq_iff_eq, decide_eq_true_eq] at hk
              exact l_end0 (fun _ _ => rets_v rfl) ⟨rfl, congrArg (fun l => Value.string (bs l)) (by first | (simp [restL, hk]; done) | (simp_all [restL]; done))⟩
            · refine c_seq ?_
              refine c_region ?_
              refine l_l rfl rfl rfl ?_
              refine l_l rfl rfl rfl ?_
              refine l_nil ?_
              refine c_cond rfl (fun h7 => ?_) (fun h7 => ?_)
              · refine c_seq ?_
                refine c_region ?_
                refine l_l rfl rfl rfl ?_
                refine l_l (light_cat rfl rfl (by (try simp only [List.length_append, List.length_cons, List.length_nil]); omega)) rfl rfl ?_
                refine l_l (light_cat rfl rfl (by (try simp only [List.length_append, List.length_cons, List.length_nil]); omega)) rfl rfl ?_
                refine l_l rfl rfl rfl ?_
                refine l_nil ?_
                refine c_ret ?_
                have hk := h7
                simp only [beq_iff_eq, decide_eq_true_eq] at hk
                exact l_end0 (fun _ _ => rets_v rfl) ⟨rfl, congrArg (fun l => Value.string (bs l)) (by first | (simp [restL, hk]; done) | (simp_all [restL]; done))⟩
              · refine c_seq ?_
                refine c_region ?_
                refine l_l rfl rfl rfl ?_
                refine l_l rfl rfl rfl ?_
                refine l_nil ?_
                refine c_cond rfl (fun h8 => ?_) (fun h8 => ?_)
                · refine c_seq ?_
                  refine c_region ?_
                  refine l_l rfl rfl rfl ?_
                  refine l_l (light_cat rfl rfl (by (try simp only [List.length_append, List.length_cons, List.length_nil]); omega)) rfl rfl ?_
                  refine l_l (light_cat rfl rfl (by (try simp only [List.length_append, List.length_cons, List.length_nil]); omega)) rfl rfl ?_
                  refine l_l rfl rfl rfl ?_
                  refine l_nil ?_
                  refine c_ret ?_
                  have hk := h8
                  simp only [beq_iff_eq, decide_eq_true_eq] at hk
                  exact l_end0 (fun _ _ => rets_v rfl) ⟨rfl, congrArg (fun l => Value.string (bs l)) (by first | (simp [restL, hk]; done) | (simp_all [restL]; done))⟩
                · refine c_seq ?_
                  refine c_region ?_
                  refine l_l rfl rfl rfl ?_
                  refine l_l rfl rfl rfl ?_
                  refine l_nil ?_
                  refine c_cond rfl (fun h9 => ?_) (fun h9 => ?_)
                  · refine c_seq ?_
                    refine c_region ?_
                    refine l_l rfl rfl rfl ?_
                    refine l_l (light_cat rfl rfl (by (try simp only [List.length_append, List.length_cons, List.length_nil]); omega)) rfl rfl ?_
                    refine l_l (light_cat rfl rfl (by (try simp only [List.length_append, List.length_cons, List.length_nil]); omega)) rfl rfl ?_
                    refine l_l rfl rfl rfl ?_
                    refine l_nil ?_
                    refine c_ret ?_
                    have hk := h9
                    simp only [beq_iff_eq, decide_eq_true_eq] at hk
                    exact l_end0 (fun _ _ => rets_v rfl) ⟨rfl, congrArg (fun l => Value.string (bs l)) (by first | (simp [restL, hk]; done) | (simp_all [restL]; done))⟩
                  · refine c_seq ?_
                    refine c_region ?_
                    refine l_l rfl rfl rfl ?_
                    refine l_l rfl rfl rfl ?_
                    refine l_nil ?_
                    refine c_cond rfl (fun h10 => ?_) (fun h10 => ?_)
                    · refine c_seq ?_
                      refine c_region ?_
                      refine l_l rfl rfl rfl ?_
                      refine l_l (light_cat rfl rfl (by (try simp only [List.length_append, List.length_cons, List.length_nil]); omega)) rfl rfl ?_
                      refine l_l (light_cat rfl rfl (by (try simp only [List.length_append, List.length_cons, List.length_nil]); omega)) rfl rfl ?_
                      refine l_l rfl rfl rfl ?_
                      refine l_nil ?_
                      refine c_ret ?_
                      have hk := h10
                      simp only [beq_iff_eq, decide_eq_true_eq] at hk
                      exact l_end0 (fun _ _ => rets_v rfl) ⟨rfl, congrArg (fun l => Value.string (bs l)) (by first | (simp [restL, hk]; done) | (simp_all [restL]; done))⟩
                    · refine c_seq ?_
                      refine c_region ?_
                      refine l_l rfl rfl rfl ?_
                      refine l_l rfl rfl rfl ?_
                      refine l_nil ?_
                      refine c_cond rfl (fun h11 => ?_) (fun h11 => ?_)
                      · refine c_seq ?_
                        refine c_region ?_
                        refine l_l rfl rfl rfl ?_
                        refine l_l (light_cat rfl rfl (by (try simp only [List.length_append, List.length_cons, List.length_nil]); omega)) rfl rfl ?_
                        refine l_l rfl rfl rfl ?_
                        refine l_nil ?_
                        refine c_ret ?_
                        have hk := h11
                        simp only [beq_iff_eq, decide_eq_true_eq] at hk
                        exact l_end0 (fun _ _ => rets_v rfl) ⟨rfl, congrArg (fun l => Value.string (bs l)) (by first | (simp [restL, hk]; done) | (simp_all [restL]; done))⟩
                      · refine c_seq ?_
                        refine c_region ?_
                        refine l_l rfl rfl rfl ?_
                        refine l_l rfl rfl rfl ?_
                        refine l_nil ?_
                        refine c_cond rfl (fun h12 => ?_) (fun h12 => ?_)
                        · refine c_seq ?_
                          refine c_region ?_
                          refine l_l rfl rfl rfl ?_
                          refine l_l (light_cat rfl rfl (by (try simp only [List.length_append, List.length_cons, List.length_nil]); omega)) rfl rfl ?_
                          refine l_l rfl rfl rfl ?_
                          refine l_nil ?_
                          refine c_ret ?_
                          have hk := h12
                          simp only [beq_iff_eq, decide_eq_true_eq] at hk
                          exact l_end0 (fun _ _ => rets_v rfl) ⟨rfl, congrArg (fun l => Value.string (bs l)) (by first | (simp [restL, hk]; done) | (simp_all [restL]; done))⟩
                        · refine c_seq ?_
                          refine c_seq ?_
                          refine c_region ?_
                          refine l_l rfl rfl rfl ?_
                          refine l_l rfl rfl rfl ?_
                          refine l_nil ?_
                          refine c_cond rfl (fun h13 => ?_) (fun h13 => ?_)
                          · refine c_skip ?_
                            refine c_sure true rfl h13 ?_
                            refine c_seq ?_
                            refine c_draw _ [3, 4, 5, 6, 7, 8, 9, 10, 11, 12] (.step true 0 (.step true 1 (.step true 2 (.step true 6 (.step true 7 (.step true 11 (.step true 12 (.step false 3 (.step false 4 (.step true 5 (.step false 8 (.step true 9 (.step true 10 (.step false 13 (.step true 14 (.step true 15 .done)))))))))))))))) rfl (by kernel_rfl) (by kernel_rfl) (fun _ h => h) ?_
                            refine d_light rfl (light_fa rfl rfl) rfl rfl rfl ?_
                            refine d_load rfl rfl rfl (s_own (by repeat (first | exact .head _ | refine .tail _ ?_ | refine List.mem_append_right _ ?_)) (by rfl)) rfl rfl ?_
                            refine d_as (v := (.int .i64 (o.kind - 44))) rfl rfl rfl rfl rfl (congrArg _ (wrap_i64 (by (try simp only [decide_eq_true_eq, decide_eq_false_iff_not, beq_iff_eq, beq_eq_false_iff_ne, bne_iff_ne, bne_eq_false_iff_eq, ne_eq] at *); omega) (by (try simp only [decide_eq_true_eq, decide_eq_false_iff_not, beq_iff_eq, beq_eq_false_iff_ne, bne_iff_ne, bne_eq_false_iff_eq, ne_eq] at *); omega))) ?_
                            refine d_light rfl (light_fa rfl rfl) rfl rfl rfl ?_
                            refine d_load rfl rfl rfl (s_own (by repeat (first | exact .head _ | refine .tail _ ?_ | refine List.mem_append_right _ ?_)) (by rfl)) rfl rfl ?_
                            refine d_light rfl (light_fa rfl rfl) rfl rfl rfl ?_
                            refine d_load rfl rfl rfl (s_own (by repeat (first | exact .head _ | refine .tail _ ?_ | refine List.mem_append_right _ ?_)) (by rfl)) rfl rfl ?_
                            refine d_x rfl (x_slc (z := [.string (bs [])]) (l := [.string (bs [98, 105, 116]), .string (bs [114, 101, 115]), .string (bs [115, 101, 116])]) (ps := [(0, .string (bs [98, 105, 116])), (1, .string (bs [114, 101, 115])), (2, .string (bs [115, 101, 116]))]) rfl rfl rfl rfl (by kernel_rfl) (by kernel_rfl)) rfl rfl (by intro _ _ _ hK x hx; obtain ⟨_, rfl, rfl⟩ := hK; repeat (first | exact hx | exact List.mem_append_left _ hx | refine List.mem_append_right _ ?_ | refine .tail _ ?_)) ?_
                            rintro _ _ ⟨b78, rfl, rfl⟩
                            refine d_x rfl (x_val call_24 rfl (fun w hw => pick_fn _ behW _ _ (by decide) w (fun _ => ⟨_, 0, rfl, row_own (by repeat (first | exact .head _ | refine .tail _ ?_ | refine List.mem_append_right _ ?_)) w hw⟩))) rfl rfl (by intro _ _ _ hK x hx; obtain ⟨rfl, rfl⟩ := hK; repeat (first | exact hx | exact List.mem_append_left _ hx | refine List.mem_append_right _ ?_ | refine .tail _ ?_)) ?_
                            rintro _ _ ⟨rfl, rfl⟩
                            refine d_light rfl (light_cat rfl rfl (by (try simp only [List.length_append, List.length_cons, List.length_nil]); omega)) rfl rfl rfl ?_
                            refine d_x rfl (x_val call_42 rfl (fun w hw => bit_fn _ w)) rfl rfl (by intro _ _ _ hK x hx; obtain ⟨rfl, rfl⟩ := hK; repeat (first | exact hx | exact List.mem_append_left _ hx | refine List.mem_append_right _ ?_ | refine .tail _ ?_)) ?_
                            rintro _ _ ⟨rfl, rfl⟩
                            refine d_light rfl (light_cat rfl rfl (by (try simp only [List.length_append, List.length_cons, List.length_nil]); omega)) rfl rfl rfl ?_
                            refine d_light rfl (light_cat rfl rfl (by (try simp only [List.length_append, List.length_cons, List.length_nil]); omega)) rfl rfl rfl ?_
                            refine d_x rfl (x_val call_21 rfl (fun w hw => one_fn _ w)) rfl rfl (by intro h; cases h) ?_
                            rintro _ _ ⟨rfl, rfl⟩
                            refine d_light rfl (light_cat rfl rfl (by (try simp only [List.length_append, List.length_cons, List.length_nil]); omega)) rfl rfl rfl ?_
                            refine d_light rfl rfl rfl rfl rfl ?_
                            refine d_nil ?_
                            refine c_ret ?_
                            have hk := h13
                            simp only [beq_iff_eq, decide_eq_true_eq] at hk
                            exact l_end0 (fun _ _ => rets_v rfl) ⟨rfl, congrArg (fun l => Value.string (bs l)) (by first | (simp [restL, hk]; done) | (simp_all [restL]; done))⟩
                          · refine c_seq ?_
                            refine c_region ?_
                            refine l_l rfl rfl rfl ?_
                            refine l_l rfl rfl rfl ?_
                            refine l_nil ?_
                            refine c_cond rfl (fun h14 => ?_) (fun h14 => ?_)
                            · refine c_skip ?_
                              refine c_sure true rfl h14 ?_
                              refine c_seq ?_
                              refine c_draw _ [3, 4, 5, 6, 7, 8, 9, 10, 11, 12] (.step true 0 (.step true 1 (.step true 2 (.step true 6 (.step true 7 (.step true 11 (.step true 12 (.step false 3 (.step false 4 (.step true 5 (.step false 8 (.step true 9 (.step true 10 (.step false 13 (.step true 14 (.step true 15 .done)))))))))))))))) rfl (by kernel_rfl) (by kernel_rfl) (fun _ h => h) ?_
                              refine d_light rfl (light_fa rfl rfl) rfl rfl rfl ?_
                              refine d_load rfl rfl rfl (s_own (by repeat (first | exact .head _ | refine .tail _ ?_ | refine List.mem_append_right _ ?_)) (by rfl)) rfl rfl ?_
                              refine d_as (v := (.int .i64 (o.kind - 44))) rfl rfl rfl rfl rfl (congrArg _ (wrap_i64 (by (try simp only [decide_eq_true_eq, decide_eq_false_iff_not, beq_iff_eq, beq_eq_false_iff_ne, bne_iff_ne, bne_eq_false_iff_eq, ne_eq] at *); omega) (by (try simp only [decide_eq_true_eq, decide_eq_false_iff_not, beq_iff_eq, beq_eq_false_iff_ne, bne_iff_ne, bne_eq_false_iff_eq, ne_eq] at *); omega))) ?_
                              refine d_light rfl (light_fa rfl rfl) rfl rfl rfl ?_
                              refine d_load rfl rfl rfl (s_own (by repeat (first | exact .head _ | refine .tail _ ?_ | refine List.mem_append_right _ ?_)) (by rfl)) rfl rfl ?_
                              refine d_light rfl (light_fa rfl rfl) rfl rfl rfl ?_
                              refine d_load rfl rfl rfl (s_own (by repeat (first | exact .head _ | refine .tail _ ?_ | refine List.mem_append_right _ ?_)) (by rfl)) rfl rfl ?_
                              refine d_x rfl (x_slc (z := [.string (bs [])]) (l := [.string (bs [98, 105, 116]), .string (bs [114, 101, 115]), .string (bs [115, 101, 116])]) (ps := [(0, .string (bs [98, 105, 116])), (1, .string (bs [114, 101, 115])), (2, .string (bs [115, 101, 116]))]) rfl rfl rfl rfl (by kernel_rfl) (by kernel_rfl)) rfl rfl (by intro _ _ _ hK x hx; obtain ⟨_, rfl, rfl⟩ := hK; repeat (first | exact hx | exact List.mem_append_left _ hx | refine List.mem_append_right _ ?_ | refine .tail _ ?_)) ?_
                              rintro _ _ ⟨b78, rfl, rfl⟩
                              refine d_x rfl (x_val call_24 rfl (fun w hw => pick_fn _ behW _ _ (by decide) w (fun _ => ⟨_, 0, rfl, row_own (by repeat (first | exact .head _ | refine .tail _ ?_ | refine List.mem_append_right _ ?_)) w hw⟩))) rfl rfl (by intro _ _ _ hK x hx; obtain ⟨rfl, rfl⟩ := hK; repeat (first | exact hx | exact List.mem_append_left _ hx | refine List.mem_append_right _ ?_ | refine .tail _ ?_)) ?_
                              rintro _ _ ⟨rfl, rfl⟩
                              refine d_light rfl (light_cat rfl rfl (by (try simp only [List.length_append, List.length_cons, List.length_nil]); omega)) rfl rfl rfl ?_
                              refine d_x rfl (x_val call_42 rfl (fun w hw => bit_fn _ w)) rfl rfl (by intro _ _ _ hK x hx; obtain ⟨rfl, rfl⟩ := hK; repeat (first | exact hx | exact List.mem_append_left _ hx | refine List.mem_append_right _ ?_ | refine .tail _ ?_)) ?_
                              rintro _ _ ⟨rfl, rfl⟩
                              refine d_light rfl (light_cat rfl rfl (by (try simp only [List.length_append, List.length_cons, List.length_nil]); omega)) rfl rfl rfl ?_
                              refine d_light rfl (light_cat rfl rfl (by (try simp only [List.length_append, List.length_cons, List.length_nil]); omega)) rfl rfl rfl ?_
                              refine d_x rfl (x_val call_21 rfl (fun w hw => one_fn _ w)) rfl rfl (by intro h; cases h) ?_
                              rintro _ _ ⟨rfl, rfl⟩
                              refine d_light rfl (light_cat rfl rfl (by (try simp only [List.length_append, List.length_cons, List.length_nil]); omega)) rfl rfl rfl ?_
                              refine d_light rfl rfl rfl rfl rfl ?_
                              refine d_nil ?_
                              refine c_ret ?_
                              have hk := h14
                              simp only [beq_iff_eq, decide_eq_true_eq] at hk
                              exact l_end0 (fun _ _ => rets_v rfl) ⟨rfl, congrArg (fun l => Value.string (bs l)) (by first | (simp [restL, hk]; done) | (simp_all [restL]; done))⟩
                            · refine c_region ?_
                              refine l_l rfl rfl rfl ?_
                              refine l_l rfl rfl rfl ?_
                              refine l_nil ?_
                              refine c_cond rfl (fun h15 => ?_) (fun h15 => ?_)
                              · refine c_seq ?_
                                refine c_draw _ [3, 4, 5, 6, 7, 8, 9, 10, 11, 12] (.step true 0 (.step true 1 (.step true 2 (.step true 6 (.step true 7 (.step true 11 (.step true 12 (.step false 3 (.step false 4 (.step true 5 (.step false 8 (.step true 9 (.step true 10 (.step false 13 (.step true 14 (.step true 15 .done)))))))))))))))) rfl (by kernel_rfl) (by kernel_rfl) (fun _ h => h) ?_
                                refine d_light rfl (light_fa rfl rfl) rfl rfl rfl ?_
                                refine d_load rfl rfl rfl (s_own (by repeat (first | exact .head _ | refine .tail _ ?_ | refine List.mem_append_right _ ?_)) (by rfl)) rfl rfl ?_
                                refine d_as (v := (.int .i64 (o.kind - 44))) rfl rfl rfl rfl rfl (congrArg _ (wrap_i64 (by (try simp only [decide_eq_true_eq, decide_eq_false_iff_not, beq_iff_eq, beq_eq_false_iff_ne, bne_iff_ne, bne_eq_false_iff_eq, ne_eq] at *); omega) (by (try simp only [decide_eq_true_eq, decide_eq_false_iff_not, beq_iff_eq, beq_eq_false_iff_ne, bne_iff_ne, bne_eq_false_iff_eq, ne_eq] at *); omega))) ?_
                                refine d_light rfl (light_fa rfl rfl) rfl rfl rfl ?_
                                refine d_load rfl rfl rfl (s_own (by repeat (first | exact .head _ | refine .tail _ ?_ | refine List.mem_append_right _ ?_)) (by rfl)) rfl rfl ?_
                                refine d_light rfl (light_fa rfl rfl) rfl rfl rfl ?_
                                refine d_load rfl rfl rfl (s_own (by repeat (first | exact .head _ | refine .tail _ ?_ | refine List.mem_append_right _ ?_)) (by rfl)) rfl rfl ?_
                                refine d_x rfl (x_slc (z := [.string (bs [])]) (l := [.string (bs [98, 105, 116]), .string (bs [114, 101, 115]), .string (bs [115, 101, 116])]) (ps := [(0, .string (bs [98, 105, 116])), (1, .string (bs [114, 101, 115])), (2, .string (bs [115, 101, 116]))]) rfl rfl rfl rfl (by kernel_rfl) (by kernel_rfl)) rfl rfl (by intro _ _ _ hK x hx; obtain ⟨_, rfl, rfl⟩ := hK; repeat (first | exact hx | exact List.mem_append_left _ hx | refine List.mem_append_right _ ?_ | refine .tail _ ?_)) ?_
                                rintro _ _ ⟨b78, rfl, rfl⟩
                                refine d_x rfl (x_val call_24 rfl (fun w hw => pick_fn _ behW _ _ (by decide) w (fun _ => ⟨_, 0, rfl, row_own (by repeat (first | exact .head _ | refine .tail _ ?_ | refine List.mem_append_right _ ?_)) w hw⟩))) rfl rfl (by intro _ _ _ hK x hx; obtain ⟨rfl, rfl⟩ := hK; repeat (first | exact hx | exact List.mem_append_left _ hx | refine List.mem_append_right _ ?_ | refine .tail _ ?_)) ?_
                                rintro _ _ ⟨rfl, rfl⟩
                                refine d_light rfl (light_cat rfl rfl (by (try simp only [List.length_append, List.length_cons, List.length_nil]); omega)) rfl rfl rfl ?_
                                refine d_x rfl (x_val call_42 rfl (fun w hw => bit_fn _ w)) rfl rfl (by intro _ _ _ hK x hx; obtain ⟨rfl, rfl⟩ := hK; repeat (first | exact hx | exact List.mem_append_left _ hx | refine List.mem_append_right _ ?_ | refine .tail _ ?_)) ?_
                                rintro _ _ ⟨rfl, rfl⟩
                                refine d_light rfl (light_cat rfl rfl (by (try simp only [List.length_append, List.length_cons, List.length_nil]); omega)) rfl rfl rfl ?_
                                refine d_light rfl (light_cat rfl rfl (by (try simp only [List.length_append, List.length_cons, List.length_nil]); omega)) rfl rfl rfl ?_
                                refine d_x rfl (x_val call_21 rfl (fun w hw => one_fn _ w)) rfl rfl (by intro h; cases h) ?_
                                rintro _ _ ⟨rfl, rfl⟩
                                refine d_light rfl (light_cat rfl rfl (by (try simp only [List.length_append, List.length_cons, List.length_nil]); omega)) rfl rfl rfl ?_
                                refine d_light rfl rfl rfl rfl rfl ?_
                                refine d_nil ?_
                                refine c_ret ?_
                                have hk := h15
                                simp only [beq_iff_eq, decide_eq_true_eq] at hk
                                exact l_end0 (fun _ _ => rets_v rfl) ⟨rfl, congrArg (fun l => Value.string (bs l)) (by first | (simp [restL, hk]; done) | (simp_all [restL]; done))⟩
                              · refine c_skip ?_
                                refine c_seq ?_
                                refine c_region ?_
                                refine l_l (light_fa rfl rfl) rfl rfl ?_
                                refine l_x (x_load rfl rfl (at_own (by repeat (first | exact .head _ | refine .tail _ ?_ | refine List.mem_append_right _ ?_)) (by rfl))) rfl rfl ?_
                                rintro _ _ ⟨rfl, rfl⟩
                                refine l_x (x_val call_43 rfl (fun w hw => alone_fn _ w)) rfl rfl ?_
                                rintro _ _ ⟨rfl, rfl⟩
                                refine l_l rfl rfl rfl ?_
                                refine l_nil ?_
                                refine c_ret ?_
                                exact l_end0 (fun _ _ => rets_v rfl) ⟨rfl, congrArg (fun l => Value.string (bs l)) (by simp_all [restL])⟩

theorem text_fn (o : Opr) (h0 : 0 ≤ o.n) (hn : o.n < 65536) (w : World) :
    Does Try.prog 13 [.agg (cO o).toArray] w [] (fun v H => H = [] ∧ v = .string (bs (txt o))) := by
  have q1 := one_len o.x; have q2 := one_len o.y; have q3 := two_len o.x; have q4 := far_len o.x; have q5 := sum_len o.x; have q6 := bit_len o.x; have q7 := turn_len o.x; have q8 := turna_len o.x; have q9 := hexL_len o.n.toNat 2; have q0 := hexL_len o.n.toNat 4; have qb := beh_len (o.kind - 44); have qh2 : (h2 o).length = 2 := hexL_len _ _; have qh4 : (h4 o).length = 4 := hexL_len _ _
  refine does_of Try.func13 rfl rfl rfl (St.refl w) ?_
  refine c_seq ?_
  refine c_region ?_
  refine l_x (x_box rfl rfl) rfl rfl ?_
  rintro _ _ ⟨b1, rfl, rfl⟩
  refine l_l rfl rfl rfl ?_
  refine l_nil ?_
  refine c_keep [3, 4, 5, 6, 7, 8, 9, 10] [(3, .string (bs (h2 o))), (4, .string (bs (h4 o)))] ?_ (fun y1 => ?_)
  · refine c_draw _ [2, 3, 4] (.step true 0 (.step true 1 (.step true 3 (.step true 4 (.step false 2 (.step false 5 (.step true 6 (.step true 7 .done)))))))) rfl (by kernel_rfl) (by kernel_rfl) (fun _ h => h) ?_
    refine d_light rfl (light_fa rfl rfl) rfl rfl rfl ?_
    refine d_load rfl rfl rfl (s_own (by repeat (first | exact .head _ | refine .tail _ ?_ | refine List.mem_append_right _ ?_)) (by rfl)) rfl rfl ?_
    refine d_light rfl (light_fa rfl rfl) rfl rfl rfl ?_
    refine d_load rfl rfl rfl (s_own (by repeat (first | exact .head _ | refine .tail _ ?_ | refine List.mem_append_right _ ?_)) (by rfl)) rfl rfl ?_
    refine d_x rfl (x_val call_20 rfl (fun w hw => hex_fn _ h0 hn _ (by decide) (by decide) w)) rfl rfl (by intro _ _ _ hK x hx; obtain ⟨rfl, rfl⟩ := hK; repeat (first | exact hx | exact List.mem_append_left _ hx | refine List.mem_append_right _ ?_ | refine .tail _ ?_)) ?_
    rintro _ _ ⟨rfl, rfl⟩
    refine d_x rfl (x_val call_20 rfl (fun w hw => hex_fn _ h0 hn _ (by decide) (by decide) w)) rfl rfl (by intro h; cases h) ?_
    rintro _ _ ⟨rfl, rfl⟩
    refine d_light rfl rfl rfl rfl rfl ?_
    refine d_light rfl rfl rfl rfl rfl ?_
    refine d_nil ?_
    exact ⟨(.cons rfl (.cons rfl .nil)), (by repeat (first | exact Agree.refl _ _ | exact Agree.mix rfl | refine Agree.put rfl ?_ | refine Agree.keep rfl ?_)), fun _ h => h⟩
  · refine c_seq ?_
    refine c_seq ?_
    refine c_region ?_
    refine l_l (light_fa rfl rfl) rfl rfl ?_
    refine l_x (x_load rfl rfl (at_own (by repeat (first | exact .head _ | refine .tail _ ?_ | refine List.mem_append_right _ ?_)) (by rfl))) rfl rfl ?_
    rintro _ _ ⟨rfl, rfl⟩
    refine l_nil ?_
    refine c_block ?_
    refine c_seq ?_
    refine c_region ?_
    refine l_l rfl rfl rfl ?_
    refine l_l rfl rfl rfl ?_
    refine l_nil ?_
    refine c_cond rfl (fun h1 => ?_) (fun h1 => ?_)
    · refine c_seq ?_
      refine c_region ?_
      refine l_l rfl rfl rfl ?_
      refine l_l (light_cat rfl rfl (by (try simp only [List.length_append, List.length_cons, List.length_nil]); omega)) rfl rfl ?_
      refine l_l rfl rfl rfl ?_
      refine l_nil ?_
      refine c_ret ?_
      have hk := h1
      simp only [beq_iff_eq, decide_eq_true_eq] at hk
      exact l_end0 (fun _ _ => rets_v rfl) ⟨rfl, congrArg (fun l => Value.string (bs l)) (by first | (simp [txt, hk]; done) | (simp_all [txt]; done))⟩
    · refine c_seq ?_
      refine c_region ?_
      refine l_l rfl rfl rfl ?_
      refine l_l rfl rfl rfl ?_
      refine l_nil ?_
      refine c_cond rfl (fun h2 => ?_) (fun h2 => ?_)
      · refine c_seq ?_
        refine c_draw _ [2, 3, 4, 5, 6] (.step true 0 (.step true 1 (.step true 5 (.step true 6 (.step false 2 (.step true 3 (.step true 4 (.step false 7 (.step true 8 (.step true 9 .done)))))))))) rfl (by kernel_rfl) (by kernel_rfl) (fun _ h => h) ?_
        refine d_light rfl (light_fa rfl rfl) rfl rfl rfl ?_
        refine d_load rfl rfl rfl (s_own (by repeat (first | exact .head _ | refine .tail _ ?_ | refine List.mem_append_right _ ?_)) (by rfl)) rfl rfl ?_
        refine d_light rfl (light_fa rfl rfl) rfl rfl rfl ?_
        refine d_load rfl rfl rfl (s_own (by repeat (first | exact .head _ | refine .tail _ ?_ | refine List.mem_append_right _ ?_)) (by rfl)) rfl rfl ?_
        refine d_x rfl (x_val call_21 rfl (fun w hw => one_fn _ w)) rfl rfl (by intro _ _ _ hK x hx; obtain ⟨rfl, rfl⟩ := hK; repeat (first | exact hx | exact List.mem_append_left _ hx | refine List.mem_append_right _ ?_ | refine .tail _ ?_)) ?_
        rintro _ _ ⟨rfl, rfl⟩
        refine d_light rfl (light_cat rfl rfl (by (try simp only [List.length_append, List.length_cons, List.length_nil]); omega)) rfl rfl rfl ?_
        refine d_light rfl (light_cat rfl rfl (by (try simp only [List.length_append, List.length_cons, List.length_nil]); omega)) rfl rfl rfl ?_
        refine d_x rfl (x_val call_21 rfl (fun w hw => one_fn _ w)) rfl rfl (by intro h; cases h) ?_
        rintro _ _ ⟨rfl, rfl⟩
        refine d_light rfl (light_cat rfl rfl (by (try simp only [List.length_append, List.length_cons, List.length_nil]); omega)) rfl rfl rfl ?_
        refine d_light rfl rfl rfl rfl rfl ?_
        refine d_nil ?_
        refine c_ret ?_
        have hk := h2
        simp only [beq_iff_eq, decide_eq_true_eq] at hk
        exact l_end0 (fun _ _ => rets_v rfl) ⟨rfl, congrArg (fun l => Value.string (bs l)) (by first | (simp [txt, hk]; done) | (simp_all [txt]; done))⟩
      · refine c_seq ?_
        refine c_region ?_
        refine l_l rfl rfl rfl ?_
        refine l_l rfl rfl rfl ?_
        refine l_nil ?_
        refine c_cond rfl (fun h3 => ?_) (fun h3 => ?_)
        · refine c_seq ?_
          refine c_region ?_
          refine l_l (light_fa rfl rfl) rfl rfl ?_
          refine l_x (x_load rfl rfl (at_own (by repeat (first | exact .head _ | refine .tail _ ?_ | refine List.mem_append_right _ ?_)) (by rfl))) rfl rfl ?_
          rintro _ _ ⟨rfl, rfl⟩
          refine l_x (x_val call_21 rfl (fun w hw => one_fn _ w)) rfl rfl ?_
          rintro _ _ ⟨rfl, rfl⟩
          refine l_l (light_cat rfl rfl (by (try simp only [List.length_append, List.length_cons, List.length_nil]); omega)) rfl rfl ?_
          refine l_l (light_cat rfl rfl (by (try simp only [List.length_append, List.length_cons, List.length_nil]); omega)) rfl rfl ?_
          refine l_l rfl rfl rfl ?_
          refine l_l (light_cat rfl rfl (by (try simp only [List.length_append, List.length_cons, List.length_nil]); omega)) rfl rfl ?_
          refine l_l rfl rfl rfl ?_
          refine l_nil ?_
          refine c_ret ?_
          have hk := h3
          simp only [beq_iff_eq, decide_eq_true_eq] at hk
          exact l_end0 (fun _ _ => rets_v rfl) ⟨rfl, congrArg (fun l => Value.string (bs l)) (by first | (simp [txt, hk]; done) | (simp_all [txt]; done))⟩
        · refine c_seq ?_
          refine c_region ?_
          refine l_l rfl rfl rfl ?_
          refine l_l rfl rfl rfl ?_
          refine l_nil ?_
          refine c_cond rfl (fun h4 => ?_) (fun h4 => ?_)
          · refine c_seq ?_
            refine c_region ?_
            refine l_l (light_fa rfl rfl) rfl rfl ?_
            refine l_x (x_load rfl rfl (at_own (by repeat (first | exact .head _ | refine .tail _ ?_ | refine List.mem_append_right _ ?_)) (by rfl))) rfl rfl ?_
            rintro _ _ ⟨rfl, rfl⟩
            refine l_x (x_val call_22 rfl (fun w hw => two_fn _ w)) rfl rfl ?_
            rintro _ _ ⟨rfl, rfl⟩
            refine l_l (light_cat rfl rfl (by (try simp only [List.length_append, List.length_cons, List.length_nil]); omega)) rfl rfl ?_
            refine l_l (light_cat rfl rfl (by (try simp only [List.length_append, List.length_cons, List.length_nil]); omega)) rfl rfl ?_
            refine l_l rfl rfl rfl ?_
            refine l_l (light_cat rfl rfl (by (try simp only [List.length_append, List.length_cons, List.length_nil]); omega)) rfl rfl ?_
            refine l_l rfl rfl rfl ?_
            refine l_nil ?_
            refine c_ret ?_
            have hk := h4
            simp only [beq_iff_eq, decide_eq_true_eq] at hk
            exact l_end0 (fun _ _ => rets_v rfl) ⟨rfl, congrArg (fun l => Value.string (bs l)) (by first | (simp [txt, hk]; done) | (simp_all [txt]; done))⟩
          · refine c_seq ?_
            refine c_region ?_
            refine l_l rfl rfl rfl ?_
            refine l_l rfl rfl rfl ?_
            refine l_nil ?_
            refine c_cond rfl (fun h5 => ?_) (fun h5 => ?_)
            · refine c_seq ?_
              refine c_draw _ [2, 3, 4, 5] (.step true 0 (.step true 1 (.step true 4 (.step true 5 (.step false 2 (.step true 3 (.step false 6 (.step true 7 (.step true 8 .done))))))))) rfl (by kernel_rfl) (by kernel_rfl) (fun _ h => h) ?_
              refine d_light rfl (light_fa rfl rfl) rfl rfl rfl ?_
              refine d_load rfl rfl rfl (s_own (by repeat (first | exact .head _ | refine .tail _ ?_ | refine List.mem_append_right _ ?_)) (by rfl)) rfl rfl ?_
              refine d_light rfl (light_fa rfl rfl) rfl rfl rfl ?_
              refine d_load rfl rfl rfl (s_own (by repeat (first | exact .head _ | refine .tail _ ?_ | refine List.mem_append_right _ ?_)) (by rfl)) rfl rfl ?_
              refine d_x rfl (x_val call_23 rfl (fun w hw => sum_fn _ w)) rfl rfl (by intro _ _ _ hK x hx; obtain ⟨rfl, rfl⟩ := hK; repeat (first | exact hx | exact List.mem_append_left _ hx | refine List.mem_append_right _ ?_ | refine .tail _ ?_)) ?_
              rintro _ _ ⟨rfl, rfl⟩
              refine d_light rfl (light_cat rfl rfl (by (try simp only [List.length_append, List.length_cons, List.length_nil]); omega)) rfl rfl rfl ?_
              refine d_x rfl (x_val call_21 rfl (fun w hw => one_fn _ w)) rfl rfl (by intro h; cases h) ?_
              rintro _ _ ⟨rfl, rfl⟩
              refine d_light rfl (light_cat rfl rfl (by (try simp only [List.length_append, List.length_cons, List.length_nil]); omega)) rfl rfl rfl ?_
              refine d_light rfl rfl rfl rfl rfl ?_
              refine d_nil ?_
              refine c_ret ?_
              have hk := h5
              simp only [beq_iff_eq, decide_eq_true_eq] at hk
              exact l_end0 (fun _ _ => rets_v rfl) ⟨rfl, congrArg (fun l => Value.string (bs l)) (by first | (simp [txt, hk]; done) | (simp_all [txt]; done))⟩
            · refine c_seq ?_
              refine c_region ?_
              refine l_l rfl rfl rfl ?_
              refine l_l rfl rfl rfl ?_
              refine l_nil ?_
              refine c_cond rfl (fun h6 => ?_) (fun h6 => ?_)
              · refine c_seq ?_
                refine c_region ?_
                refine l_l (light_fa rfl rfl) rfl rfl ?_
                refine l_x (x_load rfl rfl (at_own (by repeat (first | exact .head _ | refine .tail _ ?_ | refine List.mem_append_right _ ?_)) (by rfl))) rfl rfl ?_
                rintro _ _ ⟨rfl, rfl⟩
                refine l_x (x_val call_23 rfl (fun w hw => sum_fn _ w)) rfl rfl ?_
                rintro _ _ ⟨rfl, rfl⟩
                refine l_l (light_cat rfl rfl (by (try simp only [List.length_append, List.length_cons, List.length_nil]); omega)) rfl rfl ?_
                refine l_l rfl rfl rfl ?_
                refine l_l (light_cat rfl rfl (by (try simp only [List.length_append, List.length_cons, List.length_nil]); omega)) rfl rfl ?_
                refine l_l rfl rfl rfl ?_
                refine l_nil ?_
                refine c_ret ?_
                have hk := h6
                simp only [beq_iff_eq, decide_eq_true_eq] at hk
                exact l_end0 (fun _ _ => rets_v rfl) ⟨rfl, congrArg (fun l => Value.string (bs l)) (by first | (simp [txt, hk]; done) | (simp_all [txt]; done))⟩
              · refine c_seq ?_
                refine c_region ?_
                refine l_l rfl rfl rfl ?_
                refine l_l rfl rfl rfl ?_
                refine l_nil ?_
                refine c_cond rfl (fun h7 => ?_) (fun h7 => ?_)
                · refine c_seq ?_
                  refine c_region ?_
                  refine l_l (light_fa rfl rfl) rfl rfl ?_
                  refine l_x (x_load rfl rfl (at_own (by repeat (first | exact .head _ | refine .tail _ ?_ | refine List.mem_append_right _ ?_)) (by rfl))) rfl rfl ?_
                  rintro _ _ ⟨rfl, rfl⟩
                  refine l_x (x_val call_21 rfl (fun w hw => one_fn _ w)) rfl rfl ?_
                  rintro _ _ ⟨rfl, rfl⟩
                  refine l_l (light_cat rfl rfl (by (try simp only [List.length_append, List.length_cons, List.length_nil]); omega)) rfl rfl ?_
                  refine l_l rfl rfl rfl ?_
                  refine l_nil ?_
                  refine c_ret ?_
                  have hk := h7
                  simp only [beq_iff_eq, decide_eq_true_eq] at hk
                  exact l_end0 (fun _ _ => rets_v rfl) ⟨rfl, congrArg (fun l => Value.string (bs l)) (by first | (simp [txt, hk]; done) | (simp_all [txt]; done))⟩
                · refine c_seq ?_
                  refine c_region ?_
                  refine l_l rfl rfl rfl ?_
                  refine l_l rfl rfl rfl ?_
                  refine l_nil ?_
                  refine c_cond rfl (fun h8 => ?_) (fun h8 => ?_)
                  · refine c_seq ?_
                    refine c_region ?_
                    refine l_l (light_fa rfl rfl) rfl rfl ?_
                    refine l_x (x_load rfl rfl (at_own (by repeat (first | exact .head _ | refine .tail _ ?_ | refine List.mem_append_right _ ?_)) (by rfl))) rfl rfl ?_
                    rintro _ _ ⟨rfl, rfl⟩
                    refine l_x (x_val call_21 rfl (fun w hw => one_fn _ w)) rfl rfl ?_
                    rintro _ _ ⟨rfl, rfl⟩
                    refine l_l (light_cat rfl rfl (by (try simp only [List.length_append, List.length_cons, List.length_nil]); omega)) rfl rfl ?_
                    refine l_l rfl rfl rfl ?_
                    refine l_nil ?_
                    refine c_ret ?_
                    have hk := h8
                    simp only [beq_iff_eq, decide_eq_true_eq] at hk
                    exact l_end0 (fun _ _ => rets_v rfl) ⟨rfl, congrArg (fun l => Value.string (bs l)) (by first | (simp [txt, hk]; done) | (simp_all [txt]; done))⟩
                  · refine c_seq ?_
                    refine c_region ?_
                    refine l_l rfl rfl rfl ?_
                    refine l_l rfl rfl rfl ?_
                    refine l_nil ?_
                    refine c_cond rfl (fun h9 => ?_) (fun h9 => ?_)
                    · refine c_seq ?_
                      refine c_region ?_
                      refine l_l (light_fa rfl rfl) rfl rfl ?_
                      refine l_x (x_load rfl rfl (at_own (by repeat (first | exact .head _ | refine .tail _ ?_ | refine List.mem_append_right _ ?_)) (by rfl))) rfl rfl ?_
                      rintro _ _ ⟨rfl, rfl⟩
                      refine l_x (x_val call_22 rfl (fun w hw => two_fn _ w)) rfl rfl ?_
                      rintro _ _ ⟨rfl, rfl⟩
                      refine l_l (light_cat rfl rfl (by (try simp only [List.length_append, List.length_cons, List.length_nil]); omega)) rfl rfl ?_
                      refine l_l rfl rfl rfl ?_
                      refine l_nil ?_
                      refine c_ret ?_
                      have hk := h9
                      simp only [beq_iff_eq, decide_eq_true_eq] at hk
                      exact l_end0 (fun _ _ => rets_v rfl) ⟨rfl, congrArg (fun l => Value.string (bs l)) (by first | (simp [txt, hk]; done) | (simp_all [txt]; done))⟩
                    · refine c_seq ?_
                      refine c_region ?_
                      refine l_l rfl rfl rfl ?_
                      refine l_l rfl rfl rfl ?_
                      refine l_nil ?_
                      refine c_cond rfl (fun h10 => ?_) (fun h10 => ?_)
                      · refine c_seq ?_
                        refine c_region ?_
                        refine l_l (light_fa rfl rfl) rfl rfl ?_
                        refine l_x (x_load rfl rfl (at_own (by repeat (first | exact .head _ | refine .tail _ ?_ | refine List.mem_append_right _ ?_)) (by rfl))) rfl rfl ?_
                        rintro _ _ ⟨rfl, rfl⟩
                        refine l_x (x_val call_22 rfl (fun w hw => two_fn _ w)) rfl rfl ?_
                        rintro _ _ ⟨rfl, rfl⟩
                        refine l_l (light_cat rfl rfl (by (try simp only [List.length_append, List.length_cons, List.length_nil]); omega)) rfl rfl ?_
                        refine l_l rfl rfl rfl ?_
                        refine l_nil ?_
                        refine c_ret ?_
                        have hk := h10
                        simp only [beq_iff_eq, decide_eq_true_eq] at hk
                        exact l_end0 (fun _ _ => rets_v rfl) ⟨rfl, congrArg (fun l => Value.string (bs l)) (by first | (simp [txt, hk]; done) | (simp_all [txt]; done))⟩
                      · refine c_seq ?_
                        refine c_region ?_
                        refine l_l rfl rfl rfl ?_
                        refine l_l rfl rfl rfl ?_
                        refine l_nil ?_
                        refine c_cond rfl (fun h11 => ?_) (fun h11 => ?_)
                        · refine c_seq ?_
                          refine c_region ?_
                          refine l_l (light_fa rfl rfl) rfl rfl ?_
                          refine l_x (x_load rfl rfl (at_own (by repeat (first | exact .head _ | refine .tail _ ?_ | refine List.mem_append_right _ ?_)) (by rfl))) rfl rfl ?_
                          rintro _ _ ⟨rfl, rfl⟩
                          refine l_x (x_val call_22 rfl (fun w hw => two_fn _ w)) rfl rfl ?_
                          rintro _ _ ⟨rfl, rfl⟩
                          refine l_l (light_cat rfl rfl (by (try simp only [List.length_append, List.length_cons, List.length_nil]); omega)) rfl rfl ?_
                          refine l_l rfl rfl rfl ?_
                          refine l_nil ?_
                          refine c_ret ?_
                          have hk := h11
                          simp only [beq_iff_eq, decide_eq_true_eq] at hk
                          exact l_end0 (fun _ _ => rets_v rfl) ⟨rfl, congrArg (fun l => Value.string (bs l)) (by first | (simp [txt, hk]; done) | (simp_all [txt]; done))⟩
                        · refine c_seq ?_
                          refine c_region ?_
                          refine l_l rfl rfl rfl ?_
                          refine l_l rfl rfl rfl ?_
                          refine l_nil ?_
                          refine c_cond rfl (fun h12 => ?_) (fun h12 => ?_)
                          · refine c_seq ?_
                            refine c_draw _ [2, 3, 4, 5, 6] (.step true 0 (.step true 1 (.step true 5 (.step true 6 (.step false 2 (.step false 3 (.step true 4 (.step false 7 (.step true 8 (.step true 9 .done)))))))))) rfl (by kernel_rfl) (by kernel_rfl) (fun _ h => h) ?_
                            refine d_light rfl (light_fa rfl rfl) rfl rfl rfl ?_
                            refine d_load rfl rfl rfl (s_own (by repeat (first | exact .head _ | refine .tail _ ?_ | refine List.mem_append_right _ ?_)) (by rfl)) rfl rfl ?_
                            refine d_light rfl (light_fa rfl rfl) rfl rfl rfl ?_
                            refine d_load rfl rfl rfl (s_own (by repeat (first | exact .head _ | refine .tail _ ?_ | refine List.mem_append_right _ ?_)) (by rfl)) rfl rfl ?_
                            refine d_x rfl (x_slc (z := [.string (bs [])]) (l := [.string (bs [114, 108, 99]), .string (bs [114, 114, 99]), .string (bs [114, 108]), .string (bs [114, 114]), .string (bs [115, 108, 97]), .string (bs [115, 114, 97]), .string (bs [115, 119, 97, 112]), .string (bs [115, 114, 108])]) (ps := [(0, .string (bs [114, 108, 99])), (1, .string (bs [114, 114, 99])), (2, .string (bs [114, 108])), (3, .string (bs [114, 114])), (4, .string (bs [115, 108, 97])), (5, .string (bs [115, 114, 97])), (6, .string (bs [115, 119, 97, 112])), (7, .string (bs [115, 114, 108]))]) rfl rfl rfl rfl (by kernel_rfl) (by kernel_rfl)) rfl rfl (by intro _ _ _ hK x hx; obtain ⟨_, rfl, rfl⟩ := hK; repeat (first | exact hx | exact List.mem_append_left _ hx | refine List.mem_append_right _ ?_ | refine .tail _ ?_)) ?_
                            rintro _ _ ⟨b98, rfl, rfl⟩
                            refine d_x rfl (x_val call_24 rfl (fun w hw => pick_fn _ turnW _ _ (by decide) w (fun _ => ⟨_, 0, rfl, row_own (by repeat (first | exact .head _ | refine .tail _ ?_ | refine List.mem_append_right _ ?_)) w hw⟩))) rfl rfl (by intro _ _ _ hK x hx; obtain ⟨rfl, rfl⟩ := hK; repeat (first | exact hx | exact List.mem_append_left _ hx | refine List.mem_append_right _ ?_ | refine .tail _ ?_)) ?_
                            rintro _ _ ⟨rfl, rfl⟩
                            refine d_light rfl (light_cat rfl rfl (by (try simp only [List.length_append, List.length_cons, List.length_nil]); omega)) rfl rfl rfl ?_
                            refine d_x rfl (x_val call_21 rfl (fun w hw => one_fn _ w)) rfl rfl (by intro h; cases h) ?_
                            rintro _ _ ⟨rfl, rfl⟩
                            refine d_light rfl (light_cat rfl rfl (by (try simp only [List.length_append, List.length_cons, List.length_nil]); omega)) rfl rfl rfl ?_
                            refine d_light rfl rfl rfl rfl rfl ?_
                            refine d_nil ?_
                            refine c_ret ?_
                            have hk := h12
                            simp only [beq_iff_eq, decide_eq_true_eq] at hk
                            exact l_end0 (fun _ _ => rets_v rfl) ⟨rfl, congrArg (fun l => Value.string (bs l)) (by first | (simp [txt, hk]; done) | (simp_all [txt]; done))⟩
                          · refine c_seq ?_
                            refine c_region ?_
                            refine l_l rfl rfl rfl ?_
                            refine l_l rfl rfl rfl ?_
                            refine l_nil ?_
                            refine c_cond rfl (fun h13 => ?_) (fun h13 => ?_)
                            · refine c_seq ?_
                              refine c_region ?_
                              refine l_l (light_fa rfl rfl) rfl rfl ?_
                              refine l_x (x_load rfl rfl (at_own (by repeat (first | exact .head _ | refine .tail _ ?_ | refine List.mem_append_right _ ?_)) (by rfl))) rfl rfl ?_
                              rintro _ _ ⟨rfl, rfl⟩
                              refine l_x (x_slc (z := [.string (bs [])]) (l := [.string (bs [114, 108, 99, 97]), .string (bs [114, 114, 99, 97]), .string (bs [114, 108, 97]), .string (bs [114, 114, 97])]) (ps := [(0, .string (bs [114, 108, 99, 97])), (1, .string (bs [114, 114, 99, 97])), (2, .string (bs [114, 108, 97])), (3, .string (bs [114, 114, 97]))]) rfl rfl rfl rfl (by kernel_rfl) (by kernel_rfl)) rfl rfl ?_
                              rintro _ _ ⟨b109, rfl, rfl⟩
                              refine l_x (x_val call_24 rfl (fun w hw => pick_fn _ turnaW _ _ (by decide) w (fun _ => ⟨_, 0, rfl, row_own (by repeat (first | exact .head _ | refine .tail _ ?_ | refine List.mem_append_right _ ?_)) w hw⟩))) rfl rfl ?_
                              rintro _ _ ⟨rfl, rfl⟩
                              refine l_l rfl rfl rfl ?_
                              refine l_nil ?_
                              refine c_ret ?_
                              have hk := h13
                              simp only [beq_iff_eq, decide_eq_true_eq] at hk
                              exact l_end0 (fun _ _ => rets_v rfl) ⟨rfl, congrArg (fun l => Value.string (bs l)) (by first | (simp [txt, hk]; done) | (simp_all [txt]; done))⟩
                            · refine c_seq ?_
                              refine c_region ?_
                              refine l_l rfl rfl rfl ?_
                              refine l_l rfl rfl rfl ?_
                              refine l_nil ?_
                              refine c_cond rfl (fun h14 => ?_) (fun h14 => ?_)
                              · refine c_seq ?_
                                refine c_region ?_
                                refine l_l (light_fa rfl rfl) rfl rfl ?_
                                refine l_x (x_load rfl rfl (at_own (by repeat (first | exact .head _ | refine .tail _ ?_ | refine List.mem_append_right _ ?_)) (by rfl))) rfl rfl ?_
                                rintro _ _ ⟨rfl, rfl⟩
                                refine l_l rfl rfl rfl ?_
                                refine l_x (x_val call_25 rfl (fun w hw => when_fn _ _ _ (by decide) (by first | decide | omega) w)) rfl rfl ?_
                                rintro _ _ ⟨rfl, rfl⟩
                                refine l_l rfl rfl rfl ?_
                                refine l_nil ?_
                                refine c_ret ?_
                                have hk := h14
                                simp only [beq_iff_eq, decide_eq_true_eq] at hk
                                exact l_end0 (fun _ _ => rets_v rfl) ⟨rfl, congrArg (fun l => Value.string (bs l)) (by first | (simp [txt, hk]; done) | (simp_all [txt]; done))⟩
                              · refine c_seq ?_
                                refine c_region ?_
                                refine l_l rfl rfl rfl ?_
                                refine l_l rfl rfl rfl ?_
                                refine l_nil ?_
                                refine c_cond rfl (fun h15 => ?_) (fun h15 => ?_)
                                · refine c_seq ?_
                                  refine c_region ?_
                                  refine l_l (light_fa rfl rfl) rfl rfl ?_
                                  refine l_x (x_load rfl rfl (at_own (by repeat (first | exact .head _ | refine .tail _ ?_ | refine List.mem_append_right _ ?_)) (by rfl))) rfl rfl ?_
                                  rintro _ _ ⟨rfl, rfl⟩
                                  refine l_l rfl rfl rfl ?_
                                  refine l_x (x_val call_25 rfl (fun w hw => when_fn _ _ _ (by decide) (by first | decide | omega) w)) rfl rfl ?_
                                  rintro _ _ ⟨rfl, rfl⟩
                                  refine l_l rfl rfl rfl ?_
                                  refine l_nil ?_
                                  refine c_ret ?_
                                  have hk := h15
                                  simp only [beq_iff_eq, decide_eq_true_eq] at hk
                                  exact l_end0 (fun _ _ => rets_v rfl) ⟨rfl, congrArg (fun l => Value.string (bs l)) (by first | (simp [txt, hk]; done) | (simp_all [txt]; done))⟩
                                · refine c_seq ?_
                                  refine c_region ?_
                                  refine l_l rfl rfl rfl ?_
                                  refine l_l rfl rfl rfl ?_
                                  refine l_nil ?_
                                  refine c_cond rfl (fun h16 => ?_) (fun h16 => ?_)
                                  · refine c_seq ?_
                                    refine c_region ?_
                                    refine l_l (light_fa rfl rfl) rfl rfl ?_
                                    refine l_x (x_load rfl rfl (at_own (by repeat (first | exact .head _ | refine .tail _ ?_ | refine List.mem_append_right _ ?_)) (by rfl))) rfl rfl ?_
                                    rintro _ _ ⟨rfl, rfl⟩
                                    refine l_l rfl rfl rfl ?_
                                    refine l_x (x_val call_25 rfl (fun w hw => when_fn _ _ _ (by decide) (by first | decide | omega) w)) rfl rfl ?_
                                    rintro _ _ ⟨rfl, rfl⟩
                                    refine l_l rfl rfl rfl ?_
                                    refine l_nil ?_
                                    refine c_ret ?_
                                    have hk := h16
                                    simp only [beq_iff_eq, decide_eq_true_eq] at hk
                                    exact l_end0 (fun _ _ => rets_v rfl) ⟨rfl, congrArg (fun l => Value.string (bs l)) (by first | (simp [txt, hk]; done) | (simp_all [txt]; done))⟩
                                  · refine c_seq ?_
                                    refine c_region ?_
                                    refine l_l rfl rfl rfl ?_
                                    refine l_l rfl rfl rfl ?_
                                    refine l_nil ?_
                                    refine c_cond rfl (fun h17 => ?_) (fun h17 => ?_)
                                    · refine c_seq ?_
                                      refine c_region ?_
                                      refine l_l (light_fa rfl rfl) rfl rfl ?_
                                      refine l_x (x_load rfl rfl (at_own (by repeat (first | exact .head _ | refine .tail _ ?_ | refine List.mem_append_right _ ?_)) (by rfl))) rfl rfl ?_
                                      rintro _ _ ⟨rfl, rfl⟩
                                      refine l_x (x_val call_25 rfl (fun w hw => when_fn _ _ _ (by decide) (by first | decide | omega) w)) rfl rfl ?_
                                      rintro _ _ ⟨rfl, rfl⟩
                                      refine l_l rfl rfl rfl ?_
                                      refine l_nil ?_
                                      refine c_ret ?_
                                      have hk := h17
                                      simp only [beq_iff_eq, decide_eq_true_eq] at hk
                                      exact l_end0 (fun _ _ => rets_v rfl) ⟨rfl, congrArg (fun l => Value.string (bs l)) (by first | (simp [txt, hk]; done) | (simp_all [txt]; done))⟩
                                    · refine c_skip ?_
                                      refine c_seq ?_
                                      refine c_region ?_
                                      refine l_x (x_loadA rfl rfl rfl (by first | exact row_own (by repeat (first | exact .head _ | refine .tail _ ?_ | refine List.mem_append_right _ ?_)) | exact row_own_at (by repeat (first | exact .head _ | refine .tail _ ?_ | refine List.mem_append_right _ ?_)) _ 5 rfl)) rfl rfl ?_
                                      rintro _ _ ⟨rfl, rfl⟩
                                      refine l_l rfl rfl rfl ?_
                                      refine l_l rfl rfl rfl ?_
                                      refine l_x (x_val call_26 rfl (fun w hw => rest_fn o w)) rfl rfl ?_
                                      rintro _ _ ⟨rfl, rfl⟩
                                      refine l_l rfl rfl rfl ?_
                                      refine l_nil ?_
                                      refine c_ret ?_
                                      exact l_end0 (fun _ _ => rets_v rfl) ⟨rfl, congrArg (fun l => Value.string (bs l)) (by simp_all [txt])⟩

end Go.Proofs.Ytmihilhmdcndfaa
