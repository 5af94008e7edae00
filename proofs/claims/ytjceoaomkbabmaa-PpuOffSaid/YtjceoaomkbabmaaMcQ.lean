/- The contracts of the document's unit: what is written. -/
import Derived.Test.YtjceoaomkbabmaaMcF
import Derived.Test.YtjceoaomkbabmaaMcP
namespace Go.Proofs.Ytjceoaomkbabmaa
open Go Go.VV Go.Proofs
set_option linter.unusedSimpArgs false
set_option linter.unusedVariables false
set_option maxRecDepth 100000
set_option maxHeartbeats 4000000 in
theorem rwrite_fn (b bv bs : Nat) (u : PU) (hu : u.Wf) (w : World) (hst : St w [b, bv, bs] (RH b bv bs u) w) (a x : Int) (ha : 0 ≤ a ∧ a < 65536) (hx : 0 ≤ x ∧ x < 256) : Does Try.prog 38 [.pointer (some ⟨b, 0, none⟩), .int .u16 a, .int .u8 x] w [b, bv, bs] (fun v H => v = .int .u8 (writeV u a x) ∧ H = RH b bv bs (writeU u a x)) := by
  have hlb := hu.line
  refine does_of Try.func38 rfl rfl rfl hst ?_
  refine c_seq ?_
  refine c_region ?_
  refine l_l rfl rfl rfl ?_
  refine l_nil ?_
  refine c_seq ?_
  refine c_region ?_
  refine l_l rfl rfl rfl ?_
  refine l_as (l_conv rfl rfl rfl) rfl rfl (by first | exact as_i64 (by omega) (by omega) | rfl) ?_
  refine l_l rfl rfl rfl ?_
  refine l_nil ?_
  refine c_seq ?_
  refine c_seq ?_
  refine c_region ?_
  refine l_l rfl rfl rfl ?_
  refine l_l rfl rfl rfl ?_
  refine l_x (x_val call_53 rfl (fun w hw => shut_fn b bv bs u hu w (RRow.of hw (by repeat (first | exact .head _ | refine .tail _ ?_ | refine List.mem_append_right _ ?_)) (by repeat (first | exact .head _ | refine .tail _ ?_ | refine List.mem_append_right _ ?_)) (by repeat (first | exact .head _ | refine .tail _ ?_ | refine List.mem_append_right _ ?_))) _ ha)) rfl rfl ?_
  rintro _ _ ⟨rfl, rfl⟩
  refine l_nil ?_
  refine c_cond rfl (fun h1 => ?_) (fun h1 => ?_)
  · have h1n := by first | exact of_decide_eq_true h1 | exact of_decide_eq_false h1 | exact eq_of_beq h1 | exact ne_of_beq_false h1 | exact bne_t h1 | exact bne_f h1 | exact h1
    refine c_seq ?_
    refine c_region ?_
    refine l_l rfl rfl rfl ?_
    refine l_nil ?_
    refine c_ret ?_
    exact l_end (fun _ _ => rets_v rfl) (List.Sublist.refl _) ⟨congrArg _ ((shut_V x h1).2).symm, by rw [(shut_V x h1).1]⟩
  · have h1n := by first | exact of_decide_eq_true h1 | exact of_decide_eq_false h1 | exact eq_of_beq h1 | exact ne_of_beq_false h1 | exact bne_t h1 | exact bne_f h1 | exact h1
    refine c_skip ?_
    refine c_seq ?_
    refine c_seq ?_
    refine c_region ?_
    refine l_l rfl rfl rfl ?_
    refine l_l rfl rfl rfl ?_
    refine l_b rfl rfl rfl (fun h2 => ?_) (fun h2 => ?_)
    · have h2n := by first | exact of_decide_eq_true h2 | exact of_decide_eq_false h2 | exact eq_of_beq h2 | exact ne_of_beq_false h2 | exact bne_t h2 | exact bne_f h2 | exact h2
      refine l_l rfl rfl rfl ?_
      refine l_l rfl rfl rfl ?_
      refine l_l rfl rfl rfl ?_
      refine l_nil ?_
      refine c_cond rfl (fun h3 => ?_) (fun h3 => ?_)
      · have h3n := by first | exact of_decide_eq_true h3 | exact of_decide_eq_false h3 | exact eq_of_beq h3 | exact ne_of_beq_false h3 | exact bne_t h3 | exact bne_f h3 | exact h3
        refine c_seq ?_
        refine c_region ?_
        refine l_l rfl rfl rfl ?_
        refine l_l rfl rfl rfl ?_
        refine l_l (light_fa rfl rfl) rfl rfl ?_
        refine l_x (x_load rfl rfl (at_own (by repeat (first | exact .head _ | refine .tail _ ?_ | refine List.mem_append_right _ ?_)) (cW_V hu (bv := bv) (bs := bs)))) rfl rfl ?_
        rintro _ _ ⟨rfl, rfl⟩
        refine l_l rfl rfl rfl ?_
        refine l_as (l_sub rfl rfl) rfl rfl (by first | exact as_i64 (by omega) (by omega) | rfl) ?_
        refine l_l rfl rfl rfl ?_
        refine l_l (idx_sliceI rfl rfl rfl (by omega) (by rw [hu.lV]; omega)) rfl rfl ?_
        refine l_x (x_storeTo (l' := (u.V.set (a - 32768).toNat x).map (.int .u8)) 1 rfl rfl rfl rfl rfl rfl (by rw [List.length_map, hu.lV]; simp only [List.length_cons, List.length_nil]; omega) (by rw [Nat.zero_add]; exact putL_int .u8 (by rw [hu.lV]; omega) x)) rfl rfl ?_
        rintro _ _ ⟨rfl, rfl⟩
        simp only [List.set_cons_zero, List.set_cons_succ]
        refine l_nil ?_
        refine c_seq ?_
        refine c_region ?_
        refine l_l rfl rfl rfl ?_
        refine l_nil ?_
        refine c_ret ?_
        exact l_end (fun _ _ => rets_v rfl) (List.Sublist.refl _) ⟨congrArg _ (w_V x h1 (by omega)).2.symm, by rw [(w_V x h1 (by omega)).1]; rfl⟩
      · have h3n := by first | exact of_decide_eq_true h3 | exact of_decide_eq_false h3 | exact eq_of_beq h3 | exact ne_of_beq_false h3 | exact bne_t h3 | exact bne_f h3 | exact h3
        refine c_skip ?_
        refine c_seq ?_
        refine c_seq ?_
        refine c_region ?_
        refine l_l rfl rfl rfl ?_
        refine l_l rfl rfl rfl ?_
        refine l_b rfl rfl rfl (fun h4 => ?_) (fun h4 => ?_)
        · have h4n := by first | exact of_decide_eq_true h4 | exact of_decide_eq_false h4 | exact eq_of_beq h4 | exact ne_of_beq_false h4 | exact bne_t h4 | exact bne_f h4 | exact h4
          refine l_l rfl rfl rfl ?_
          refine l_l rfl rfl rfl ?_
          refine l_l rfl rfl rfl ?_
          refine l_nil ?_
          refine c_cond rfl (fun h5 => ?_) (fun h5 => ?_)
          · have h5n := by first | exact of_decide_eq_true h5 | exact of_decide_eq_false h5 | exact eq_of_beq h5 | exact ne_of_beq_false h5 | exact bne_t h5 | exact bne_f h5 | exact h5
            refine c_seq ?_
            refine c_region ?_
            refine l_l rfl rfl rfl ?_
            refine l_l rfl rfl rfl ?_
            refine l_l (light_fa rfl rfl) rfl rfl ?_
            refine l_x (x_load rfl rfl (at_own (by repeat (first | exact .head _ | refine .tail _ ?_ | refine List.mem_append_right _ ?_)) (cW_O hu (bv := bv) (bs := bs)))) rfl rfl ?_
            rintro _ _ ⟨rfl, rfl⟩
            refine l_l rfl rfl rfl ?_
            refine l_as (l_sub rfl rfl) rfl rfl (by first | exact as_i64 (by omega) (by omega) | rfl) ?_
            refine l_l rfl rfl rfl ?_
            refine l_l (idx_sliceI rfl rfl rfl (by omega) (by rw [hu.lO]; omega)) rfl rfl ?_
            refine l_x (x_storeTo (l' := (u.O.set (a - 65024).toNat x).map (.int .u8)) 2 rfl rfl rfl rfl rfl rfl (by rw [List.length_map, hu.lO]; simp only [List.length_cons, List.length_nil]; omega) (by rw [Nat.zero_add]; exact putL_int .u8 (by rw [hu.lO]; omega) x)) rfl rfl ?_
            rintro _ _ ⟨rfl, rfl⟩
            simp only [List.set_cons_zero, List.set_cons_succ]
            refine l_nil ?_
            refine c_seq ?_
            refine c_region ?_
            refine l_l rfl rfl rfl ?_
            refine l_nil ?_
            refine c_ret ?_
            exact l_end (fun _ _ => rets_v rfl) (List.Sublist.refl _) ⟨congrArg _ (w_O x h1 (by omega)).2.symm, by rw [(w_O x h1 (by omega)).1]; rfl⟩
          · have h5n := by first | exact of_decide_eq_true h5 | exact of_decide_eq_false h5 | exact eq_of_beq h5 | exact ne_of_beq_false h5 | exact bne_t h5 | exact bne_f h5 | exact h5
            refine c_skip ?_
            refine c_seq ?_
            refine c_seq ?_
            refine c_region ?_
            refine l_l rfl rfl rfl ?_
            refine l_l rfl rfl rfl ?_
            refine l_b rfl rfl rfl (fun h6 => ?_) (fun h6 => ?_)
            · have h6n := by first | exact of_decide_eq_true h6 | exact of_decide_eq_false h6 | exact eq_of_beq h6 | exact ne_of_beq_false h6 | exact bne_t h6 | exact bne_f h6 | exact h6
              refine l_p rfl rfl ?_
              refine l_p rfl rfl ?_
              refine l_l rfl rfl rfl ?_
              refine l_l rfl rfl rfl ?_
              refine l_p rfl rfl ?_
              refine l_p rfl rfl ?_
              refine l_l rfl rfl rfl ?_
              refine l_nil ?_
              refine c_true rfl ?_
              refine c_seq ?_
              refine c_region ?_
              refine l_l rfl rfl rfl ?_
              refine l_nil ?_
              refine c_ret ?_
              exact l_end (fun _ _ => rets_v rfl) (List.Sublist.refl _) ⟨congrArg _ (wv_no _ ⟨by omega, by omega⟩ (numU_no (by omega))).symm, by rw [write_no _ ⟨by omega, by omega⟩ (numU_no (by omega))]⟩
            · have h6n := by first | exact of_decide_eq_true h6 | exact of_decide_eq_false h6 | exact eq_of_beq h6 | exact ne_of_beq_false h6 | exact bne_t h6 | exact bne_f h6 | exact h6
              refine l_l rfl rfl rfl ?_
              refine l_l rfl rfl rfl ?_
              refine l_l rfl rfl rfl ?_
              refine l_b rfl rfl rfl (fun h7 => ?_) (fun h7 => ?_)
              · have h7n := by first | exact of_decide_eq_true h7 | exact of_decide_eq_false h7 | exact eq_of_beq h7 | exact ne_of_beq_false h7 | exact bne_t h7 | exact bne_f h7 | exact h7
                refine l_p rfl rfl ?_
                refine l_p rfl rfl ?_
                refine l_l rfl rfl rfl ?_
                refine l_nil ?_
                refine c_true rfl ?_
                refine c_seq ?_
                refine c_region ?_
                refine l_l rfl rfl rfl ?_
                refine l_nil ?_
                refine c_ret ?_
                exact l_end (fun _ _ => rets_v rfl) (List.Sublist.refl _) ⟨congrArg _ (wv_no _ ⟨by omega, by omega⟩ (numU_no (by omega))).symm, by rw [write_no _ ⟨by omega, by omega⟩ (numU_no (by omega))]⟩
              · have h7n := by first | exact of_decide_eq_true h7 | exact of_decide_eq_false h7 | exact eq_of_beq h7 | exact ne_of_beq_false h7 | exact bne_t h7 | exact bne_f h7 | exact h7
                refine l_l rfl rfl rfl ?_
                refine l_l rfl rfl rfl ?_
                refine l_l rfl rfl rfl ?_
                refine l_nil ?_
                refine c_cond rfl (fun h8 => ?_) (fun h8 => ?_)
                · have h8n := by first | exact of_decide_eq_true h8 | exact of_decide_eq_false h8 | exact eq_of_beq h8 | exact ne_of_beq_false h8 | exact bne_t h8 | exact bne_f h8 | exact h8
                  refine c_seq ?_
                  refine c_region ?_
                  refine l_l rfl rfl rfl ?_
                  refine l_nil ?_
                  refine c_ret ?_
                  exact l_end (fun _ _ => rets_v rfl) (List.Sublist.refl _) ⟨congrArg _ (wv_no _ ⟨by omega, by omega⟩ (numU_no (by omega))).symm, by rw [write_no _ ⟨by omega, by omega⟩ (numU_no (by omega))]⟩
                · have h8n := by first | exact of_decide_eq_true h8 | exact of_decide_eq_false h8 | exact eq_of_beq h8 | exact ne_of_beq_false h8 | exact bne_t h8 | exact bne_f h8 | exact h8
                  refine c_skip ?_
                  refine c_seq ?_
                  refine c_region ?_
                  refine l_l rfl rfl rfl ?_
                  refine l_x (x_val call_48 rfl (fun w hw => on_fn b bv bs u hu w (RRow.of hw (by repeat (first | exact .head _ | refine .tail _ ?_ | refine List.mem_append_right _ ?_)) (by repeat (first | exact .head _ | refine .tail _ ?_ | refine List.mem_append_right _ ?_)) (by repeat (first | exact .head _ | refine .tail _ ?_ | refine List.mem_append_right _ ?_))))) rfl rfl ?_
                  rintro _ _ ⟨rfl, rfl⟩
                  refine l_l rfl rfl rfl ?_
                  refine l_nil ?_
                  refine c_seq ?_
                  refine c_seq ?_
                  refine c_region ?_
                  refine l_l rfl rfl rfl ?_
                  refine l_nil ?_
                  refine c_block ?_
                  refine c_seq ?_
                  refine c_region ?_
                  refine l_l rfl rfl rfl ?_
                  refine l_l rfl rfl rfl ?_
                  refine l_nil ?_
                  refine c_cond rfl (fun h9 => ?_) (fun h9 => ?_)
                  · have h9n := by first | exact of_decide_eq_true h9 | exact of_decide_eq_false h9 | exact eq_of_beq h9 | exact ne_of_beq_false h9 | exact bne_t h9 | exact bne_f h9 | exact h9
                    refine c_region ?_
                    refine l_l rfl rfl rfl ?_
                    refine l_l rfl rfl rfl ?_
                    refine l_as (quo_pos rfl rfl (by decide)) rfl rfl (by first | exact as_quo (by omega) (show _ < (256 : Int) by omega) (by decide) | rfl) ?_
                    refine l_as (rem_pos rfl rfl (by decide)) rfl rfl (by first | exact as_rem (by omega) | rfl) ?_
                    refine l_as (v := (.int .u8 (band .u8 x 120))) rfl rfl rfl (by rw [← told_law hx]; exact congrArg _ (wrap_u8_id (by omega) (by omega))) ?_
                    refine l_l rfl rfl rfl ?_
                    refine l_l (light_fa rfl rfl) rfl rfl ?_
                    refine l_l (by first | exact idx_array1 1 rfl rfl rfl rfl (by decide) | exact idx_slice1 1 rfl rfl rfl rfl (by decide) | exact idx_array 1 rfl rfl rfl rfl (by decide) | exact idx_slice 1 rfl rfl rfl rfl (by decide)) rfl rfl ?_
                    refine l_x (x_storeTo (l' := cW bv bs { u with R := u.R.set 1 (band .u8 x 120) }) 0 rfl rfl rfl rfl rfl rfl (by rw [cW_len hu]; simp only [List.length_cons, List.length_nil]; omega) (putW_R hu (j := 1) (by decide) _)) rfl rfl ?_
                    rintro _ _ ⟨rfl, rfl⟩
                    try simp only [List.set_cons_zero, List.set_cons_succ]
                    refine l_nil ?_
                    refine c_seq ?_
                    refine c_seq ?_
                    refine c_region ?_
                    refine l_l rfl rfl rfl ?_
                    refine l_b rfl rfl rfl (fun h10 => ?_) (fun h10 => ?_)
                    · have h10n := by first | exact of_decide_eq_true h10 | exact of_decide_eq_false h10 | exact eq_of_beq h10 | exact ne_of_beq_false h10 | exact bne_t h10 | exact bne_f h10 | exact h10
                      refine l_l rfl rfl rfl ?_
                      refine l_x (x_val call_48 rfl (fun w hw => on_fn b bv bs ({ u with R := u.R.set 1 (band .u8 x 120) }) (hu.set1 hx) w (RRow.of hw (by repeat (first | exact .head _ | refine .tail _ ?_ | refine List.mem_append_right _ ?_)) (by repeat (first | exact .head _ | refine .tail _ ?_ | refine List.mem_append_right _ ?_)) (by repeat (first | exact .head _ | refine .tail _ ?_ | refine List.mem_append_right _ ?_))))) rfl rfl ?_
                      rintro _ _ ⟨rfl, rfl⟩
                      refine l_l rfl rfl rfl ?_
                      refine l_l rfl rfl rfl ?_
                      refine l_nil ?_
                      refine c_cond rfl (fun h11 => ?_) (fun h11 => ?_)
                      · have h11n := by first | exact of_decide_eq_true h11 | exact of_decide_eq_false h11 | exact eq_of_beq h11 | exact ne_of_beq_false h11 | exact bne_t h11 | exact bne_f h11 | exact h11
                        refine c_region ?_
                        refine l_l rfl rfl rfl ?_
                        refine l_l rfl rfl rfl ?_
                        refine l_l rfl rfl rfl ?_
                        refine l_l rfl rfl rfl ?_
                        refine l_l (light_fa rfl rfl) rfl rfl ?_
                        refine l_x (x_storeTo (l' := cW bv bs ({ ({ u with R := u.R.set 1 (band .u8 x 120) } : PU) with line := 0 } : PU)) 0 rfl rfl rfl rfl rfl rfl (by rw [cW_len (hu.set1 hx)]; simp only [List.length_cons, List.length_nil]; omega) (putW_line (hu.set1 hx) _)) rfl rfl ?_
                        rintro _ _ ⟨rfl, rfl⟩
                        try simp only [List.set_cons_zero, List.set_cons_succ]
                        refine l_l rfl rfl rfl ?_
                        refine l_l (light_fa rfl rfl) rfl rfl ?_
                        refine l_x (x_storeTo (l' := cW bv bs ({ ({ u with R := u.R.set 1 (band .u8 x 120) } : PU) with line := 0, dot := 0 } : PU)) 0 rfl rfl rfl rfl rfl rfl (by rw [cW_len ((hu.set1 hx).line_ (x := 0) (by decide))]; simp only [List.length_cons, List.length_nil]; omega) (putW_dot ((hu.set1 hx).line_ (x := 0) (by decide)) _)) rfl rfl ?_
                        rintro _ _ ⟨rfl, rfl⟩
                        try simp only [List.set_cons_zero, List.set_cons_succ]
                        refine l_l rfl rfl rfl ?_
                        refine l_l (light_fa rfl rfl) rfl rfl ?_
                        refine l_x (x_storeTo (l' := cW bv bs ({ ({ u with R := u.R.set 1 (band .u8 x 120) } : PU) with line := 0, dot := 0, own := 0 } : PU)) 0 rfl rfl rfl rfl rfl rfl (by rw [cW_len (((hu.set1 hx).line_ (x := 0) (by decide)).dot_ (x := 0) (by decide))]; simp only [List.length_cons, List.length_nil]; omega) (putW_own (((hu.set1 hx).line_ (x := 0) (by decide)).dot_ (x := 0) (by decide)) _)) rfl rfl ?_
                        rintro _ _ ⟨rfl, rfl⟩
                        try simp only [List.set_cons_zero, List.set_cons_succ]
                        refine l_nil ?_
                        refine c_seq ?_
                        refine c_region ?_
                        refine l_l rfl rfl rfl ?_
                        have hs9 : putU u (a - 65344) x = ({ ({ u with R := u.R.set 1 (band .u8 x 120) } : PU) with line := 0, dot := 0, own := 0 } : PU) := by
                          unfold putU; rw [set_1 (by omega)]; exact off_yes (by simp_all) (by simp_all)
                        have hw9 : (putU u (a - 65344) x).Wf := (hu.set hx (by omega)).off _
                        refine l_heap (H' := RH b bv bs (putU u (a - 65344) x)) (fun _ h => h.as (by rw [hs9])) ?_
                        refine l_x (x_callA call_52 rfl (fun w hw => stat_fn b bv bs (putU u (a - 65344) x) hw9 w (St.lentA hw))) rfl rfl ?_
                        rintro _ _ ⟨rfl, rfl⟩
                        refine l_l rfl rfl rfl ?_
                        refine l_nil ?_
                        refine c_ret ?_
                        exact l_end (fun _ _ => rets_v rfl) (List.Sublist.refl _) ⟨congrArg _ (wv_no' x ⟨by omega, by omega⟩ (by omega)).symm, by rw [write_no' x ⟨by omega, by omega⟩ (by omega)]⟩
                      · have h11n := by first | exact of_decide_eq_true h11 | exact of_decide_eq_false h11 | exact eq_of_beq h11 | exact ne_of_beq_false h11 | exact bne_t h11 | exact bne_f h11 | exact h11
                        refine c_skip ?_
                        refine c_seq ?_
                        refine c_region ?_
                        refine l_l rfl rfl rfl ?_
                        have hs9 : putU u (a - 65344) x = { u with R := u.R.set 1 (band .u8 x 120) } := by
                          unfold putU; rw [set_1 (by omega)]; exact off_no (by simp_all)
                        have hw9 : (putU u (a - 65344) x).Wf := (hu.set hx (by omega)).off _
                        refine l_heap (H' := RH b bv bs (putU u (a - 65344) x)) (fun _ h => h.as (by rw [hs9])) ?_
                        refine l_x (x_callA call_52 rfl (fun w hw => stat_fn b bv bs (putU u (a - 65344) x) hw9 w (St.lentA hw))) rfl rfl ?_
                        rintro _ _ ⟨rfl, rfl⟩
                        refine l_l rfl rfl rfl ?_
                        refine l_nil ?_
                        refine c_ret ?_
                        exact l_end (fun _ _ => rets_v rfl) (List.Sublist.refl _) ⟨congrArg _ (wv_no' x ⟨by omega, by omega⟩ (by omega)).symm, by rw [write_no' x ⟨by omega, by omega⟩ (by omega)]⟩
                    · have h10n := by first | exact of_decide_eq_true h10 | exact of_decide_eq_false h10 | exact eq_of_beq h10 | exact ne_of_beq_false h10 | exact bne_t h10 | exact bne_f h10 | exact h10
                      refine l_p rfl rfl ?_
                      refine l_p rfl rfl ?_
                      refine l_p rfl rfl ?_
                      refine l_l rfl rfl rfl ?_
                      refine l_nil ?_
                      refine c_false rfl ?_
                      refine c_skip ?_
                      refine c_seq ?_
                      refine c_region ?_
                      refine l_l rfl rfl rfl ?_
                      have hs9 : putU u (a - 65344) x = { u with R := u.R.set 1 (band .u8 x 120) } := by
                        unfold putU; rw [set_1 (by omega)]; exact off_no (by simp_all)
                      have hw9 : (putU u (a - 65344) x).Wf := (hu.set hx (by omega)).off _
                      refine l_heap (H' := RH b bv bs (putU u (a - 65344) x)) (fun _ h => h.as (by rw [hs9])) ?_
                      refine l_x (x_callA call_52 rfl (fun w hw => stat_fn b bv bs (putU u (a - 65344) x) hw9 w (St.lentA hw))) rfl rfl ?_
                      rintro _ _ ⟨rfl, rfl⟩
                      refine l_l rfl rfl rfl ?_
                      refine l_nil ?_
                      refine c_ret ?_
                      exact l_end (fun _ _ => rets_v rfl) (List.Sublist.refl _) ⟨congrArg _ (wv_no' x ⟨by omega, by omega⟩ (by omega)).symm, by rw [write_no' x ⟨by omega, by omega⟩ (by omega)]⟩
                  · have h9n := by first | exact of_decide_eq_true h9 | exact of_decide_eq_false h9 | exact eq_of_beq h9 | exact ne_of_beq_false h9 | exact bne_t h9 | exact bne_f h9 | exact h9
                    refine c_seq ?_
                    refine c_region ?_
                    refine l_l rfl rfl rfl ?_
                    refine l_l rfl rfl rfl ?_
                    refine l_nil ?_
                    refine c_cond rfl (fun h12 => ?_) (fun h12 => ?_)
                    · have h12n := by first | exact of_decide_eq_true h12 | exact of_decide_eq_false h12 | exact eq_of_beq h12 | exact ne_of_beq_false h12 | exact bne_t h12 | exact bne_f h12 | exact h12
                      refine c_skip ?_
                      refine c_seq ?_
                      refine c_seq ?_
                      refine c_region ?_
                      refine l_l rfl rfl rfl ?_
                      refine l_b rfl rfl rfl (fun h13 => ?_) (fun h13 => ?_)
                      · have h13n := by first | exact of_decide_eq_true h13 | exact of_decide_eq_false h13 | exact eq_of_beq h13 | exact ne_of_beq_false h13 | exact bne_t h13 | exact bne_f h13 | exact h13
                        refine l_l rfl rfl rfl ?_
                        refine l_x (x_val call_48 rfl (fun w hw => on_fn b bv bs (u) hu w (RRow.of hw (by repeat (first | exact .head _ | refine .tail _ ?_ | refine List.mem_append_right _ ?_)) (by repeat (first | exact .head _ | refine .tail _ ?_ | refine List.mem_append_right _ ?_)) (by repeat (first | exact .head _ | refine .tail _ ?_ | refine List.mem_append_right _ ?_))))) rfl rfl ?_
                        rintro _ _ ⟨rfl, rfl⟩
                        refine l_l rfl rfl rfl ?_
                        refine l_l rfl rfl rfl ?_
                        refine l_nil ?_
                        refine c_cond rfl (fun h14 => ?_) (fun h14 => ?_)
                        · have h14n := by first | exact of_decide_eq_true h14 | exact of_decide_eq_false h14 | exact eq_of_beq h14 | exact ne_of_beq_false h14 | exact bne_t h14 | exact bne_f h14 | exact h14
                          refine c_region ?_
                          refine l_l rfl rfl rfl ?_
                          refine l_l rfl rfl rfl ?_
                          refine l_l rfl rfl rfl ?_
                          refine l_l rfl rfl rfl ?_
                          refine l_l (light_fa rfl rfl) rfl rfl ?_
                          refine l_x (x_storeTo (l' := cW bv bs ({ (u : PU) with line := 0 } : PU)) 0 rfl rfl rfl rfl rfl rfl (by rw [cW_len hu]; simp only [List.length_cons, List.length_nil]; omega) (putW_line hu _)) rfl rfl ?_
                          rintro _ _ ⟨rfl, rfl⟩
                          try simp only [List.set_cons_zero, List.set_cons_succ]
                          refine l_l rfl rfl rfl ?_
                          refine l_l (light_fa rfl rfl) rfl rfl ?_
                          refine l_x (x_storeTo (l' := cW bv bs ({ (u : PU) with line := 0, dot := 0 } : PU)) 0 rfl rfl rfl rfl rfl rfl (by rw [cW_len (hu.line_ (x := 0) (by decide))]; simp only [List.length_cons, List.length_nil]; omega) (putW_dot (hu.line_ (x := 0) (by decide)) _)) rfl rfl ?_
                          rintro _ _ ⟨rfl, rfl⟩
                          try simp only [List.set_cons_zero, List.set_cons_succ]
                          refine l_l rfl rfl rfl ?_
                          refine l_l (light_fa rfl rfl) rfl rfl ?_
                          refine l_x (x_storeTo (l' := cW bv bs ({ (u : PU) with line := 0, dot := 0, own := 0 } : PU)) 0 rfl rfl rfl rfl rfl rfl (by rw [cW_len ((hu.line_ (x := 0) (by decide)).dot_ (x := 0) (by decide))]; simp only [List.length_cons, List.length_nil]; omega) (putW_own ((hu.line_ (x := 0) (by decide)).dot_ (x := 0) (by decide)) _)) rfl rfl ?_
                          rintro _ _ ⟨rfl, rfl⟩
                          try simp only [List.set_cons_zero, List.set_cons_succ]
                          refine l_nil ?_
                          refine c_seq ?_
                          refine c_region ?_
                          refine l_l rfl rfl rfl ?_
                          have hs9 : putU u (a - 65344) x = ({ (u : PU) with line := 0, dot := 0, own := 0 } : PU) := by
                            unfold putU; rw [set_4 (by omega)]; exact off_yes (by simp_all) (by simp_all)
                          have hw9 : (putU u (a - 65344) x).Wf := (hu.set hx (by omega)).off _
                          refine l_heap (H' := RH b bv bs (putU u (a - 65344) x)) (fun _ h => h.as (by rw [hs9])) ?_
                          refine l_x (x_callA call_52 rfl (fun w hw => stat_fn b bv bs (putU u (a - 65344) x) hw9 w (St.lentA hw))) rfl rfl ?_
                          rintro _ _ ⟨rfl, rfl⟩
                          refine l_l rfl rfl rfl ?_
                          refine l_nil ?_
                          refine c_ret ?_
                          exact l_end (fun _ _ => rets_v rfl) (List.Sublist.refl _) ⟨congrArg _ (wv_no' x ⟨by omega, by omega⟩ (by omega)).symm, by rw [write_no' x ⟨by omega, by omega⟩ (by omega)]⟩
                        · have h14n := by first | exact of_decide_eq_true h14 | exact of_decide_eq_false h14 | exact eq_of_beq h14 | exact ne_of_beq_false h14 | exact bne_t h14 | exact bne_f h14 | exact h14
                          refine c_skip ?_
                          refine c_seq ?_
                          refine c_region ?_
                          refine l_l rfl rfl rfl ?_
                          have hs9 : putU u (a - 65344) x = u := by
                            unfold putU; rw [set_4 (by omega)]; exact off_no (by simp_all)
                          have hw9 : (putU u (a - 65344) x).Wf := (hu.set hx (by omega)).off _
                          refine l_heap (H' := RH b bv bs (putU u (a - 65344) x)) (fun _ h => h.as (by rw [hs9])) ?_
                          refine l_x (x_callA call_52 rfl (fun w hw => stat_fn b bv bs (putU u (a - 65344) x) hw9 w (St.lentA hw))) rfl rfl ?_
                          rintro _ _ ⟨rfl, rfl⟩
                          refine l_l rfl rfl rfl ?_
                          refine l_nil ?_
                          refine c_ret ?_
                          exact l_end (fun _ _ => rets_v rfl) (List.Sublist.refl _) ⟨congrArg _ (wv_no' x ⟨by omega, by omega⟩ (by omega)).symm, by rw [write_no' x ⟨by omega, by omega⟩ (by omega)]⟩
                      · have h13n := by first | exact of_decide_eq_true h13 | exact of_decide_eq_false h13 | exact eq_of_beq h13 | exact ne_of_beq_false h13 | exact bne_t h13 | exact bne_f h13 | exact h13
                        refine l_p rfl rfl ?_
                        refine l_p rfl rfl ?_
                        refine l_p rfl rfl ?_
                        refine l_l rfl rfl rfl ?_
                        refine l_nil ?_
                        refine c_false rfl ?_
                        refine c_skip ?_
                        refine c_seq ?_
                        refine c_region ?_
                        refine l_l rfl rfl rfl ?_
                        have hs9 : putU u (a - 65344) x = u := by
                          unfold putU; rw [set_4 (by omega)]; exact off_no (by simp_all)
                        have hw9 : (putU u (a - 65344) x).Wf := (hu.set hx (by omega)).off _
                        refine l_heap (H' := RH b bv bs (putU u (a - 65344) x)) (fun _ h => h.as (by rw [hs9])) ?_
                        refine l_x (x_callA call_52 rfl (fun w hw => stat_fn b bv bs (putU u (a - 65344) x) hw9 w (St.lentA hw))) rfl rfl ?_
                        rintro _ _ ⟨rfl, rfl⟩
                        refine l_l rfl rfl rfl ?_
                        refine l_nil ?_
                        refine c_ret ?_
                        exact l_end (fun _ _ => rets_v rfl) (List.Sublist.refl _) ⟨congrArg _ (wv_no' x ⟨by omega, by omega⟩ (by omega)).symm, by rw [write_no' x ⟨by omega, by omega⟩ (by omega)]⟩
                    · have h12n := by first | exact of_decide_eq_true h12 | exact of_decide_eq_false h12 | exact eq_of_beq h12 | exact ne_of_beq_false h12 | exact bne_t h12 | exact bne_f h12 | exact h12
                      refine c_region ?_
                      refine l_l rfl rfl rfl ?_
                      refine l_l rfl rfl rfl ?_
                      refine l_as (l_sub rfl rfl) rfl rfl (by first | exact as_i64 (by omega) (by omega) | rfl) ?_
                      refine l_l rfl rfl rfl ?_
                      refine l_l rfl rfl rfl ?_
                      refine l_l (light_fa rfl rfl) rfl rfl ?_
                      refine l_l (idx_arrayI rfl rfl rfl (by omega) (by omega)) rfl rfl ?_
                      refine l_x (x_storeTo (l' := cW bv bs { u with R := u.R.set (a - 65344).toNat x }) 0 rfl rfl rfl rfl rfl rfl (by rw [cW_len hu]; simp only [List.length_cons, List.length_nil]; omega) (putW_R hu (j := (a - 65344).toNat) (by omega) x)) rfl rfl ?_
                      rintro _ _ ⟨rfl, rfl⟩
                      try simp only [List.set_cons_zero, List.set_cons_succ]
                      refine l_nil ?_
                      refine c_seq ?_
                      refine c_seq ?_
                      refine c_region ?_
                      refine l_l rfl rfl rfl ?_
                      refine l_b rfl rfl rfl (fun h15 => ?_) (fun h15 => ?_)
                      · have h15n := by first | exact of_decide_eq_true h15 | exact of_decide_eq_false h15 | exact eq_of_beq h15 | exact ne_of_beq_false h15 | exact bne_t h15 | exact bne_f h15 | exact h15
                        refine l_l rfl rfl rfl ?_
                        refine l_x (x_val call_48 rfl (fun w hw => on_fn b bv bs ({ u with R := u.R.set (a - 65344).toNat x }) (hu.setn (n := a - 65344) hx (by omega) (by omega)) w (RRow.of hw (by repeat (first | exact .head _ | refine .tail _ ?_ | refine List.mem_append_right _ ?_)) (by repeat (first | exact .head _ | refine .tail _ ?_ | refine List.mem_append_right _ ?_)) (by repeat (first | exact .head _ | refine .tail _ ?_ | refine List.mem_append_right _ ?_))))) rfl rfl ?_
                        rintro _ _ ⟨rfl, rfl⟩
                        refine l_l rfl rfl rfl ?_
                        refine l_l rfl rfl rfl ?_
                        refine l_nil ?_
                        refine c_cond rfl (fun h16 => ?_) (fun h16 => ?_)
                        · have h16n := by first | exact of_decide_eq_true h16 | exact of_decide_eq_false h16 | exact eq_of_beq h16 | exact ne_of_beq_false h16 | exact bne_t h16 | exact bne_f h16 | exact h16
                          refine c_region ?_
                          refine l_l rfl rfl rfl ?_
                          refine l_l rfl rfl rfl ?_
                          refine l_l rfl rfl rfl ?_
                          refine l_l rfl rfl rfl ?_
                          refine l_l (light_fa rfl rfl) rfl rfl ?_
                          refine l_x (x_storeTo (l' := cW bv bs ({ ({ u with R := u.R.set (a - 65344).toNat x } : PU) with line := 0 } : PU)) 0 rfl rfl rfl rfl rfl rfl (by rw [cW_len (hu.setn (n := a - 65344) hx (by omega) (by omega))]; simp only [List.length_cons, List.length_nil]; omega) (putW_line (hu.setn (n := a - 65344) hx (by omega) (by omega)) _)) rfl rfl ?_
                          rintro _ _ ⟨rfl, rfl⟩
                          try simp only [List.set_cons_zero, List.set_cons_succ]
                          refine l_l rfl rfl rfl ?_
                          refine l_l (light_fa rfl rfl) rfl rfl ?_
                          refine l_x (x_storeTo (l' := cW bv bs ({ ({ u with R := u.R.set (a - 65344).toNat x } : PU) with line := 0, dot := 0 } : PU)) 0 rfl rfl rfl rfl rfl rfl (by rw [cW_len ((hu.setn (n := a - 65344) hx (by omega) (by omega)).line_ (x := 0) (by decide))]; simp only [List.length_cons, List.length_nil]; omega) (putW_dot ((hu.setn (n := a - 65344) hx (by omega) (by omega)).line_ (x := 0) (by decide)) _)) rfl rfl ?_
                          rintro _ _ ⟨rfl, rfl⟩
                          try simp only [List.set_cons_zero, List.set_cons_succ]
                          refine l_l rfl rfl rfl ?_
                          refine l_l (light_fa rfl rfl) rfl rfl ?_
                          refine l_x (x_storeTo (l' := cW bv bs ({ ({ u with R := u.R.set (a - 65344).toNat x } : PU) with line := 0, dot := 0, own := 0 } : PU)) 0 rfl rfl rfl rfl rfl rfl (by rw [cW_len (((hu.setn (n := a - 65344) hx (by omega) (by omega)).line_ (x := 0) (by decide)).dot_ (x := 0) (by decide))]; simp only [List.length_cons, List.length_nil]; omega) (putW_own (((hu.setn (n := a - 65344) hx (by omega) (by omega)).line_ (x := 0) (by decide)).dot_ (x := 0) (by decide)) _)) rfl rfl ?_
                          rintro _ _ ⟨rfl, rfl⟩
                          try simp only [List.set_cons_zero, List.set_cons_succ]
                          refine l_nil ?_
                          refine c_seq ?_
                          refine c_region ?_
                          refine l_l rfl rfl rfl ?_
                          have hs9 : putU u (a - 65344) x = ({ ({ u with R := u.R.set (a - 65344).toNat x } : PU) with line := 0, dot := 0, own := 0 } : PU) := by
                            unfold putU; rw [set_n (by omega) (by omega)]; exact off_yes (by simp_all) (by simp_all)
                          have hw9 : (putU u (a - 65344) x).Wf := (hu.set hx (by omega)).off _
                          refine l_heap (H' := RH b bv bs (putU u (a - 65344) x)) (fun _ h => h.as (by rw [hs9])) ?_
                          refine l_x (x_callA call_52 rfl (fun w hw => stat_fn b bv bs (putU u (a - 65344) x) hw9 w (St.lentA hw))) rfl rfl ?_
                          rintro _ _ ⟨rfl, rfl⟩
                          refine l_l rfl rfl rfl ?_
                          refine l_nil ?_
                          refine c_ret ?_
                          exact l_end (fun _ _ => rets_v rfl) (List.Sublist.refl _) ⟨congrArg _ (wv_no' x ⟨by omega, by omega⟩ (by omega)).symm, by rw [write_no' x ⟨by omega, by omega⟩ (by omega)]⟩
                        · have h16n := by first | exact of_decide_eq_true h16 | exact of_decide_eq_false h16 | exact eq_of_beq h16 | exact ne_of_beq_false h16 | exact bne_t h16 | exact bne_f h16 | exact h16
                          refine c_skip ?_
                          refine c_seq ?_
                          refine c_region ?_
                          refine l_l rfl rfl rfl ?_
                          have hs9 : putU u (a - 65344) x = { u with R := u.R.set (a - 65344).toNat x } := by
                            unfold putU; rw [set_n (by omega) (by omega)]; exact off_no (by simp_all)
                          have hw9 : (putU u (a - 65344) x).Wf := (hu.set hx (by omega)).off _
                          refine l_heap (H' := RH b bv bs (putU u (a - 65344) x)) (fun _ h => h.as (by rw [hs9])) ?_
                          refine l_x (x_callA call_52 rfl (fun w hw => stat_fn b bv bs (putU u (a - 65344) x) hw9 w (St.lentA hw))) rfl rfl ?_
                          rintro _ _ ⟨rfl, rfl⟩
                          refine l_l rfl rfl rfl ?_
                          refine l_nil ?_
                          refine c_ret ?_
                          exact l_end (fun _ _ => rets_v rfl) (List.Sublist.refl _) ⟨congrArg _ (wv_no' x ⟨by omega, by omega⟩ (by omega)).symm, by rw [write_no' x ⟨by omega, by omega⟩ (by omega)]⟩
                      · have h15n := by first | exact of_decide_eq_true h15 | exact of_decide_eq_false h15 | exact eq_of_beq h15 | exact ne_of_beq_false h15 | exact bne_t h15 | exact bne_f h15 | exact h15
                        refine l_p rfl rfl ?_
                        refine l_p rfl rfl ?_
                        refine l_p rfl rfl ?_
                        refine l_l rfl rfl rfl ?_
                        refine l_nil ?_
                        refine c_false rfl ?_
                        refine c_skip ?_
                        refine c_seq ?_
                        refine c_region ?_
                        refine l_l rfl rfl rfl ?_
                        have hs9 : putU u (a - 65344) x = { u with R := u.R.set (a - 65344).toNat x } := by
                          unfold putU; rw [set_n (by omega) (by omega)]; exact off_no (by simp_all)
                        have hw9 : (putU u (a - 65344) x).Wf := (hu.set hx (by omega)).off _
                        refine l_heap (H' := RH b bv bs (putU u (a - 65344) x)) (fun _ h => h.as (by rw [hs9])) ?_
                        refine l_x (x_callA call_52 rfl (fun w hw => stat_fn b bv bs (putU u (a - 65344) x) hw9 w (St.lentA hw))) rfl rfl ?_
                        rintro _ _ ⟨rfl, rfl⟩
                        refine l_l rfl rfl rfl ?_
                        refine l_nil ?_
                        refine c_ret ?_
                        exact l_end (fun _ _ => rets_v rfl) (List.Sublist.refl _) ⟨congrArg _ (wv_no' x ⟨by omega, by omega⟩ (by omega)).symm, by rw [write_no' x ⟨by omega, by omega⟩ (by omega)]⟩
        · have h4n := by first | exact of_decide_eq_true h4 | exact of_decide_eq_false h4 | exact eq_of_beq h4 | exact ne_of_beq_false h4 | exact bne_t h4 | exact bne_f h4 | exact h4
          refine l_p rfl rfl ?_
          refine l_p rfl rfl ?_
          refine l_l rfl rfl rfl ?_
          refine l_nil ?_
          refine c_false rfl ?_
          refine c_skip ?_
          refine c_seq ?_
          refine c_seq ?_
          refine c_region ?_
          refine l_l rfl rfl rfl ?_
          refine l_l rfl rfl rfl ?_
          refine l_b rfl rfl rfl (fun h17 => ?_) (fun h17 => ?_)
          · have h17n := by first | exact of_decide_eq_true h17 | exact of_decide_eq_false h17 | exact eq_of_beq h17 | exact ne_of_beq_false h17 | exact bne_t h17 | exact bne_f h17 | exact h17
            refine l_p rfl rfl ?_
            refine l_p rfl rfl ?_
            refine l_l rfl rfl rfl ?_
            refine l_l rfl rfl rfl ?_
            refine l_p rfl rfl ?_
            refine l_p rfl rfl ?_
            refine l_l rfl rfl rfl ?_
            refine l_nil ?_
            refine c_true rfl ?_
            refine c_seq ?_
            refine c_region ?_
            refine l_l rfl rfl rfl ?_
            refine l_nil ?_
            refine c_ret ?_
            exact l_end (fun _ _ => rets_v rfl) (List.Sublist.refl _) ⟨congrArg _ (wv_no _ ⟨by omega, by omega⟩ (numU_no (by omega))).symm, by rw [write_no _ ⟨by omega, by omega⟩ (numU_no (by omega))]⟩
          · have h17n := by first | exact of_decide_eq_true h17 | exact of_decide_eq_false h17 | exact eq_of_beq h17 | exact ne_of_beq_false h17 | exact bne_t h17 | exact bne_f h17 | exact h17
            refine l_l rfl rfl rfl ?_
            refine l_l rfl rfl rfl ?_
            refine l_l rfl rfl rfl ?_
            refine l_b rfl rfl rfl (fun h18 => ?_) (fun h18 => ?_)
            · have h18n := by first | exact of_decide_eq_true h18 | exact of_decide_eq_false h18 | exact eq_of_beq h18 | exact ne_of_beq_false h18 | exact bne_t h18 | exact bne_f h18 | exact h18
              refine l_p rfl rfl ?_
              refine l_p rfl rfl ?_
              refine l_l rfl rfl rfl ?_
              refine l_nil ?_
              refine c_true rfl ?_
              refine c_seq ?_
              refine c_region ?_
              refine l_l rfl rfl rfl ?_
              refine l_nil ?_
              refine c_ret ?_
              exact l_end (fun _ _ => rets_v rfl) (List.Sublist.refl _) ⟨congrArg _ (wv_no _ ⟨by omega, by omega⟩ (numU_no (by omega))).symm, by rw [write_no _ ⟨by omega, by omega⟩ (numU_no (by omega))]⟩
            · have h18n := by first | exact of_decide_eq_true h18 | exact of_decide_eq_false h18 | exact eq_of_beq h18 | exact ne_of_beq_false h18 | exact bne_t h18 | exact bne_f h18 | exact h18
              refine l_l rfl rfl rfl ?_
              refine l_l rfl rfl rfl ?_
              refine l_l rfl rfl rfl ?_
              refine l_nil ?_
              refine c_cond rfl (fun h19 => ?_) (fun h19 => ?_)
              · have h19n := by first | exact of_decide_eq_true h19 | exact of_decide_eq_false h19 | exact eq_of_beq h19 | exact ne_of_beq_false h19 | exact bne_t h19 | exact bne_f h19 | exact h19
                refine c_seq ?_
                refine c_region ?_
                refine l_l rfl rfl rfl ?_
                refine l_nil ?_
                refine c_ret ?_
                exact l_end (fun _ _ => rets_v rfl) (List.Sublist.refl _) ⟨congrArg _ (wv_no _ ⟨by omega, by omega⟩ (numU_no (by omega))).symm, by rw [write_no _ ⟨by omega, by omega⟩ (numU_no (by omega))]⟩
              · have h19n := by first | exact of_decide_eq_true h19 | exact of_decide_eq_false h19 | exact eq_of_beq h19 | exact ne_of_beq_false h19 | exact bne_t h19 | exact bne_f h19 | exact h19
                refine c_skip ?_
                refine c_seq ?_
                refine c_region ?_
                refine l_l rfl rfl rfl ?_
                refine l_x (x_val call_48 rfl (fun w hw => on_fn b bv bs u hu w (RRow.of hw (by repeat (first | exact .head _ | refine .tail _ ?_ | refine List.mem_append_right _ ?_)) (by repeat (first | exact .head _ | refine .tail _ ?_ | refine List.mem_append_right _ ?_)) (by repeat (first | exact .head _ | refine .tail _ ?_ | refine List.mem_append_right _ ?_))))) rfl rfl ?_
                rintro _ _ ⟨rfl, rfl⟩
                refine l_l rfl rfl rfl ?_
                refine l_nil ?_
                refine c_seq ?_
                refine c_seq ?_
                refine c_region ?_
                refine l_l rfl rfl rfl ?_
                refine l_nil ?_
                refine c_block ?_
                refine c_seq ?_
                refine c_region ?_
                refine l_l rfl rfl rfl ?_
                refine l_l rfl rfl rfl ?_
                refine l_nil ?_
                refine c_cond rfl (fun h20 => ?_) (fun h20 => ?_)
                · have h20n := by first | exact of_decide_eq_true h20 | exact of_decide_eq_false h20 | exact eq_of_beq h20 | exact ne_of_beq_false h20 | exact bne_t h20 | exact bne_f h20 | exact h20
                  refine c_region ?_
                  refine l_l rfl rfl rfl ?_
                  refine l_l rfl rfl rfl ?_
                  refine l_as (quo_pos rfl rfl (by decide)) rfl rfl (by first | exact as_quo (by omega) (show _ < (256 : Int) by omega) (by decide) | rfl) ?_
                  refine l_as (rem_pos rfl rfl (by decide)) rfl rfl (by first | exact as_rem (by omega) | rfl) ?_
                  refine l_as (v := (.int .u8 (band .u8 x 120))) rfl rfl rfl (by rw [← told_law hx]; exact congrArg _ (wrap_u8_id (by omega) (by omega))) ?_
                  refine l_l rfl rfl rfl ?_
                  refine l_l (light_fa rfl rfl) rfl rfl ?_
                  refine l_l (by first | exact idx_array1 1 rfl rfl rfl rfl (by decide) | exact idx_slice1 1 rfl rfl rfl rfl (by decide) | exact idx_array 1 rfl rfl rfl rfl (by decide) | exact idx_slice 1 rfl rfl rfl rfl (by decide)) rfl rfl ?_
                  refine l_x (x_storeTo (l' := cW bv bs { u with R := u.R.set 1 (band .u8 x 120) }) 0 rfl rfl rfl rfl rfl rfl (by rw [cW_len hu]; simp only [List.length_cons, List.length_nil]; omega) (putW_R hu (j := 1) (by decide) _)) rfl rfl ?_
                  rintro _ _ ⟨rfl, rfl⟩
                  try simp only [List.set_cons_zero, List.set_cons_succ]
                  refine l_nil ?_
                  refine c_seq ?_
                  refine c_seq ?_
                  refine c_region ?_
                  refine l_l rfl rfl rfl ?_
                  refine l_b rfl rfl rfl (fun h21 => ?_) (fun h21 => ?_)
                  · have h21n := by first | exact of_decide_eq_true h21 | exact of_decide_eq_false h21 | exact eq_of_beq h21 | exact ne_of_beq_false h21 | exact bne_t h21 | exact bne_f h21 | exact h21
                    refine l_l rfl rfl rfl ?_
                    refine l_x (x_val call_48 rfl (fun w hw => on_fn b bv bs ({ u with R := u.R.set 1 (band .u8 x 120) }) (hu.set1 hx) w (RRow.of hw (by repeat (first | exact .head _ | refine .tail _ ?_ | refine List.mem_append_right _ ?_)) (by repeat (first | exact .head _ | refine .tail _ ?_ | refine List.mem_append_right _ ?_)) (by repeat (first | exact .head _ | refine .tail _ ?_ | refine List.mem_append_right _ ?_))))) rfl rfl ?_
                    rintro _ _ ⟨rfl, rfl⟩
                    refine l_l rfl rfl rfl ?_
                    refine l_l rfl rfl rfl ?_
                    refine l_nil ?_
                    refine c_cond rfl (fun h22 => ?_) (fun h22 => ?_)
                    · have h22n := by first | exact of_decide_eq_true h22 | exact of_decide_eq_false h22 | exact eq_of_beq h22 | exact ne_of_beq_false h22 | exact bne_t h22 | exact bne_f h22 | exact h22
                      refine c_region ?_
                      refine l_l rfl rfl rfl ?_
                      refine l_l rfl rfl rfl ?_
                      refine l_l rfl rfl rfl ?_
                      refine l_l rfl rfl rfl ?_
                      refine l_l (light_fa rfl rfl) rfl rfl ?_
                      refine l_x (x_storeTo (l' := cW bv bs ({ ({ u with R := u.R.set 1 (band .u8 x 120) } : PU) with line := 0 } : PU)) 0 rfl rfl rfl rfl rfl rfl (by rw [cW_len (hu.set1 hx)]; simp only [List.length_cons, List.length_nil]; omega) (putW_line (hu.set1 hx) _)) rfl rfl ?_
                      rintro _ _ ⟨rfl, rfl⟩
                      try simp only [List.set_cons_zero, List.set_cons_succ]
                      refine l_l rfl rfl rfl ?_
                      refine l_l (light_fa rfl rfl) rfl rfl ?_
                      refine l_x (x_storeTo (l' := cW bv bs ({ ({ u with R := u.R.set 1 (band .u8 x 120) } : PU) with line := 0, dot := 0 } : PU)) 0 rfl rfl rfl rfl rfl rfl (by rw [cW_len ((hu.set1 hx).line_ (x := 0) (by decide))]; simp only [List.length_cons, List.length_nil]; omega) (putW_dot ((hu.set1 hx).line_ (x := 0) (by decide)) _)) rfl rfl ?_
                      rintro _ _ ⟨rfl, rfl⟩
                      try simp only [List.set_cons_zero, List.set_cons_succ]
                      refine l_l rfl rfl rfl ?_
                      refine l_l (light_fa rfl rfl) rfl rfl ?_
                      refine l_x (x_storeTo (l' := cW bv bs ({ ({ u with R := u.R.set 1 (band .u8 x 120) } : PU) with line := 0, dot := 0, own := 0 } : PU)) 0 rfl rfl rfl rfl rfl rfl (by rw [cW_len (((hu.set1 hx).line_ (x := 0) (by decide)).dot_ (x := 0) (by decide))]; simp only [List.length_cons, List.length_nil]; omega) (putW_own (((hu.set1 hx).line_ (x := 0) (by decide)).dot_ (x := 0) (by decide)) _)) rfl rfl ?_
                      rintro _ _ ⟨rfl, rfl⟩
                      try simp only [List.set_cons_zero, List.set_cons_succ]
                      refine l_nil ?_
                      refine c_seq ?_
                      refine c_region ?_
                      refine l_l rfl rfl rfl ?_
                      have hs9 : putU u (a - 65344) x = ({ ({ u with R := u.R.set 1 (band .u8 x 120) } : PU) with line := 0, dot := 0, own := 0 } : PU) := by
                        unfold putU; rw [set_1 (by omega)]; exact off_yes (by simp_all) (by simp_all)
                      have hw9 : (putU u (a - 65344) x).Wf := (hu.set hx (by omega)).off _
                      refine l_heap (H' := RH b bv bs (putU u (a - 65344) x)) (fun _ h => h.as (by rw [hs9])) ?_
                      refine l_x (x_callA call_52 rfl (fun w hw => stat_fn b bv bs (putU u (a - 65344) x) hw9 w (St.lentA hw))) rfl rfl ?_
                      rintro _ _ ⟨rfl, rfl⟩
                      refine l_l rfl rfl rfl ?_
                      refine l_nil ?_
                      refine c_ret ?_
                      exact l_end (fun _ _ => rets_v rfl) (List.Sublist.refl _) ⟨congrArg _ (wv_no' x ⟨by omega, by omega⟩ (by omega)).symm, by rw [write_no' x ⟨by omega, by omega⟩ (by omega)]⟩
                    · have h22n := by first | exact of_decide_eq_true h22 | exact of_decide_eq_false h22 | exact eq_of_beq h22 | exact ne_of_beq_false h22 | exact bne_t h22 | exact bne_f h22 | exact h22
                      refine c_skip ?_
                      refine c_seq ?_
                      refine c_region ?_
                      refine l_l rfl rfl rfl ?_
                      have hs9 : putU u (a - 65344) x = { u with R := u.R.set 1 (band .u8 x 120) } := by
                        unfold putU; rw [set_1 (by omega)]; exact off_no (by simp_all)
                      have hw9 : (putU u (a - 65344) x).Wf := (hu.set hx (by omega)).off _
                      refine l_heap (H' := RH b bv bs (putU u (a - 65344) x)) (fun _ h => h.as (by rw [hs9])) ?_
                      refine l_x (x_callA call_52 rfl (fun w hw => stat_fn b bv bs (putU u (a - 65344) x) hw9 w (St.lentA hw))) rfl rfl ?_
                      rintro _ _ ⟨rfl, rfl⟩
                      refine l_l rfl rfl rfl ?_
                      refine l_nil ?_
                      refine c_ret ?_
                      exact l_end (fun _ _ => rets_v rfl) (List.Sublist.refl _) ⟨congrArg _ (wv_no' x ⟨by omega, by omega⟩ (by omega)).symm, by rw [write_no' x ⟨by omega, by omega⟩ (by omega)]⟩
                  · have h21n := by first | exact of_decide_eq_true h21 | exact of_decide_eq_false h21 | exact eq_of_beq h21 | exact ne_of_beq_false h21 | exact bne_t h21 | exact bne_f h21 | exact h21
                    refine l_p rfl rfl ?_
                    refine l_p rfl rfl ?_
                    refine l_p rfl rfl ?_
                    refine l_l rfl rfl rfl ?_
                    refine l_nil ?_
                    refine c_false rfl ?_
                    refine c_skip ?_
                    refine c_seq ?_
                    refine c_region ?_
                    refine l_l rfl rfl rfl ?_
                    have hs9 : putU u (a - 65344) x = { u with R := u.R.set 1 (band .u8 x 120) } := by
                      unfold putU; rw [set_1 (by omega)]; exact off_no (by simp_all)
                    have hw9 : (putU u (a - 65344) x).Wf := (hu.set hx (by omega)).off _
                    refine l_heap (H' := RH b bv bs (putU u (a - 65344) x)) (fun _ h => h.as (by rw [hs9])) ?_
                    refine l_x (x_callA call_52 rfl (fun w hw => stat_fn b bv bs (putU u (a - 65344) x) hw9 w (St.lentA hw))) rfl rfl ?_
                    rintro _ _ ⟨rfl, rfl⟩
                    refine l_l rfl rfl rfl ?_
                    refine l_nil ?_
                    refine c_ret ?_
                    exact l_end (fun _ _ => rets_v rfl) (List.Sublist.refl _) ⟨congrArg _ (wv_no' x ⟨by omega, by omega⟩ (by omega)).symm, by rw [write_no' x ⟨by omega, by omega⟩ (by omega)]⟩
                · have h20n := by first | exact of_decide_eq_true h20 | exact of_decide_eq_false h20 | exact eq_of_beq h20 | exact ne_of_beq_false h20 | exact bne_t h20 | exact bne_f h20 | exact h20
                  refine c_seq ?_
                  refine c_region ?_
                  refine l_l rfl rfl rfl ?_
                  refine l_l rfl rfl rfl ?_
                  refine l_nil ?_
                  refine c_cond rfl (fun h23 => ?_) (fun h23 => ?_)
                  · have h23n := by first | exact of_decide_eq_true h23 | exact of_decide_eq_false h23 | exact eq_of_beq h23 | exact ne_of_beq_false h23 | exact bne_t h23 | exact bne_f h23 | exact h23
                    refine c_skip ?_
                    refine c_seq ?_
                    refine c_seq ?_
                    refine c_region ?_
                    refine l_l rfl rfl rfl ?_
                    refine l_b rfl rfl rfl (fun h24 => ?_) (fun h24 => ?_)
                    · have h24n := by first | exact of_decide_eq_true h24 | exact of_decide_eq_false h24 | exact eq_of_beq h24 | exact ne_of_beq_false h24 | exact bne_t h24 | exact bne_f h24 | exact h24
                      refine l_l rfl rfl rfl ?_
                      refine l_x (x_val call_48 rfl (fun w hw => on_fn b bv bs (u) hu w (RRow.of hw (by repeat (first | exact .head _ | refine .tail _ ?_ | refine List.mem_append_right _ ?_)) (by repeat (first | exact .head _ | refine .tail _ ?_ | refine List.mem_append_right _ ?_)) (by repeat (first | exact .head _ | refine .tail _ ?_ | refine List.mem_append_right _ ?_))))) rfl rfl ?_
                      rintro _ _ ⟨rfl, rfl⟩
                      refine l_l rfl rfl rfl ?_
                      refine l_l rfl rfl rfl ?_
                      refine l_nil ?_
                      refine c_cond rfl (fun h25 => ?_) (fun h25 => ?_)
                      · have h25n := by first | exact of_decide_eq_true h25 | exact of_decide_eq_false h25 | exact eq_of_beq h25 | exact ne_of_beq_false h25 | exact bne_t h25 | exact bne_f h25 | exact h25
                        refine c_region ?_
                        refine l_l rfl rfl rfl ?_
                        refine l_l rfl rfl rfl ?_
                        refine l_l rfl rfl rfl ?_
                        refine l_l rfl rfl rfl ?_
                        refine l_l (light_fa rfl rfl) rfl rfl ?_
                        refine l_x (x_storeTo (l' := cW bv bs ({ (u : PU) with line := 0 } : PU)) 0 rfl rfl rfl rfl rfl rfl (by rw [cW_len hu]; simp only [List.length_cons, List.length_nil]; omega) (putW_line hu _)) rfl rfl ?_
                        rintro _ _ ⟨rfl, rfl⟩
                        try simp only [List.set_cons_zero, List.set_cons_succ]
                        refine l_l rfl rfl rfl ?_
                        refine l_l (light_fa rfl rfl) rfl rfl ?_
                        refine l_x (x_storeTo (l' := cW bv bs ({ (u : PU) with line := 0, dot := 0 } : PU)) 0 rfl rfl rfl rfl rfl rfl (by rw [cW_len (hu.line_ (x := 0) (by decide))]; simp only [List.length_cons, List.length_nil]; omega) (putW_dot (hu.line_ (x := 0) (by decide)) _)) rfl rfl ?_
                        rintro _ _ ⟨rfl, rfl⟩
                        try simp only [List.set_cons_zero, List.set_cons_succ]
                        refine l_l rfl rfl rfl ?_
                        refine l_l (light_fa rfl rfl) rfl rfl ?_
                        refine l_x (x_storeTo (l' := cW bv bs ({ (u : PU) with line := 0, dot := 0, own := 0 } : PU)) 0 rfl rfl rfl rfl rfl rfl (by rw [cW_len ((hu.line_ (x := 0) (by decide)).dot_ (x := 0) (by decide))]; simp only [List.length_cons, List.length_nil]; omega) (putW_own ((hu.line_ (x := 0) (by decide)).dot_ (x := 0) (by decide)) _)) rfl rfl ?_
                        rintro _ _ ⟨rfl, rfl⟩
                        try simp only [List.set_cons_zero, List.set_cons_succ]
                        refine l_nil ?_
                        refine c_seq ?_
                        refine c_region ?_
                        refine l_l rfl rfl rfl ?_
                        have hs9 : putU u (a - 65344) x = ({ (u : PU) with line := 0, dot := 0, own := 0 } : PU) := by
                          unfold putU; rw [set_4 (by omega)]; exact off_yes (by simp_all) (by simp_all)
                        have hw9 : (putU u (a - 65344) x).Wf := (hu.set hx (by omega)).off _
                        refine l_heap (H' := RH b bv bs (putU u (a - 65344) x)) (fun _ h => h.as (by rw [hs9])) ?_
                        refine l_x (x_callA call_52 rfl (fun w hw => stat_fn b bv bs (putU u (a - 65344) x) hw9 w (St.lentA hw))) rfl rfl ?_
                        rintro _ _ ⟨rfl, rfl⟩
                        refine l_l rfl rfl rfl ?_
                        refine l_nil ?_
                        refine c_ret ?_
                        exact l_end (fun _ _ => rets_v rfl) (List.Sublist.refl _) ⟨congrArg _ (wv_no' x ⟨by omega, by omega⟩ (by omega)).symm, by rw [write_no' x ⟨by omega, by omega⟩ (by omega)]⟩
                      · have h25n := by first | exact of_decide_eq_true h25 | exact of_decide_eq_false h25 | exact eq_of_beq h25 | exact ne_of_beq_false h25 | exact bne_t h25 | exact bne_f h25 | exact h25
                        refine c_skip ?_
                        refine c_seq ?_
                        refine c_region ?_
                        refine l_l rfl rfl rfl ?_
                        have hs9 : putU u (a - 65344) x = u := by
                          unfold putU; rw [set_4 (by omega)]; exact off_no (by simp_all)
                        have hw9 : (putU u (a - 65344) x).Wf := (hu.set hx (by omega)).off _
                        refine l_heap (H' := RH b bv bs (putU u (a - 65344) x)) (fun _ h => h.as (by rw [hs9])) ?_
                        refine l_x (x_callA call_52 rfl (fun w hw => stat_fn b bv bs (putU u (a - 65344) x) hw9 w (St.lentA hw))) rfl rfl ?_
                        rintro _ _ ⟨rfl, rfl⟩
                        refine l_l rfl rfl rfl ?_
                        refine l_nil ?_
                        refine c_ret ?_
                        exact l_end (fun _ _ => rets_v rfl) (List.Sublist.refl _) ⟨congrArg _ (wv_no' x ⟨by omega, by omega⟩ (by omega)).symm, by rw [write_no' x ⟨by omega, by omega⟩ (by omega)]⟩
                    · have h24n := by first | exact of_decide_eq_true h24 | exact of_decide_eq_false h24 | exact eq_of_beq h24 | exact ne_of_beq_false h24 | exact bne_t h24 | exact bne_f h24 | exact h24
                      refine l_p rfl rfl ?_
                      refine l_p rfl rfl ?_
                      refine l_p rfl rfl ?_
                      refine l_l rfl rfl rfl ?_
                      refine l_nil ?_
                      refine c_false rfl ?_
                      refine c_skip ?_
                      refine c_seq ?_
                      refine c_region ?_
                      refine l_l rfl rfl rfl ?_
                      have hs9 : putU u (a - 65344) x = u := by
                        unfold putU; rw [set_4 (by omega)]; exact off_no (by simp_all)
                      have hw9 : (putU u (a - 65344) x).Wf := (hu.set hx (by omega)).off _
                      refine l_heap (H' := RH b bv bs (putU u (a - 65344) x)) (fun _ h => h.as (by rw [hs9])) ?_
                      refine l_x (x_callA call_52 rfl (fun w hw => stat_fn b bv bs (putU u (a - 65344) x) hw9 w (St.lentA hw))) rfl rfl ?_
                      rintro _ _ ⟨rfl, rfl⟩
                      refine l_l rfl rfl rfl ?_
                      refine l_nil ?_
                      refine c_ret ?_
                      exact l_end (fun _ _ => rets_v rfl) (List.Sublist.refl _) ⟨congrArg _ (wv_no' x ⟨by omega, by omega⟩ (by omega)).symm, by rw [write_no' x ⟨by omega, by omega⟩ (by omega)]⟩
                  · have h23n := by first | exact of_decide_eq_true h23 | exact of_decide_eq_false h23 | exact eq_of_beq h23 | exact ne_of_beq_false h23 | exact bne_t h23 | exact bne_f h23 | exact h23
                    refine c_region ?_
                    refine l_l rfl rfl rfl ?_
                    refine l_l rfl rfl rfl ?_
                    refine l_as (l_sub rfl rfl) rfl rfl (by first | exact as_i64 (by omega) (by omega) | rfl) ?_
                    refine l_l rfl rfl rfl ?_
                    refine l_l rfl rfl rfl ?_
                    refine l_l (light_fa rfl rfl) rfl rfl ?_
                    refine l_l (idx_arrayI rfl rfl rfl (by omega) (by omega)) rfl rfl ?_
                    refine l_x (x_storeTo (l' := cW bv bs { u with R := u.R.set (a - 65344).toNat x }) 0 rfl rfl rfl rfl rfl rfl (by rw [cW_len hu]; simp only [List.length_cons, List.length_nil]; omega) (putW_R hu (j := (a - 65344).toNat) (by omega) x)) rfl rfl ?_
                    rintro _ _ ⟨rfl, rfl⟩
                    try simp only [List.set_cons_zero, List.set_cons_succ]
                    refine l_nil ?_
                    refine c_seq ?_
                    refine c_seq ?_
                    refine c_region ?_
                    refine l_l rfl rfl rfl ?_
                    refine l_b rfl rfl rfl (fun h26 => ?_) (fun h26 => ?_)
                    · have h26n := by first | exact of_decide_eq_true h26 | exact of_decide_eq_false h26 | exact eq_of_beq h26 | exact ne_of_beq_false h26 | exact bne_t h26 | exact bne_f h26 | exact h26
                      refine l_l rfl rfl rfl ?_
                      refine l_x (x_val call_48 rfl (fun w hw => on_fn b bv bs ({ u with R := u.R.set (a - 65344).toNat x }) (hu.setn (n := a - 65344) hx (by omega) (by omega)) w (RRow.of hw (by repeat (first | exact .head _ | refine .tail _ ?_ | refine List.mem_append_right _ ?_)) (by repeat (first | exact .head _ | refine .tail _ ?_ | refine List.mem_append_right _ ?_)) (by repeat (first | exact .head _ | refine .tail _ ?_ | refine List.mem_append_right _ ?_))))) rfl rfl ?_
                      rintro _ _ ⟨rfl, rfl⟩
                      refine l_l rfl rfl rfl ?_
                      refine l_l rfl rfl rfl ?_
                      refine l_nil ?_
                      refine c_cond rfl (fun h27 => ?_) (fun h27 => ?_)
                      · have h27n := by first | exact of_decide_eq_true h27 | exact of_decide_eq_false h27 | exact eq_of_beq h27 | exact ne_of_beq_false h27 | exact bne_t h27 | exact bne_f h27 | exact h27
                        refine c_region ?_
                        refine l_l rfl rfl rfl ?_
                        refine l_l rfl rfl rfl ?_
                        refine l_l rfl rfl rfl ?_
                        refine l_l rfl rfl rfl ?_
                        refine l_l (light_fa rfl rfl) rfl rfl ?_
                        refine l_x (x_storeTo (l' := cW bv bs ({ ({ u with R := u.R.set (a - 65344).toNat x } : PU) with line := 0 } : PU)) 0 rfl rfl rfl rfl rfl rfl (by rw [cW_len (hu.setn (n := a - 65344) hx (by omega) (by omega))]; simp only [List.length_cons, List.length_nil]; omega) (putW_line (hu.setn (n := a - 65344) hx (by omega) (by omega)) _)) rfl rfl ?_
                        rintro _ _ ⟨rfl, rfl⟩
                        try simp only [List.set_cons_zero, List.set_cons_succ]
                        refine l_l rfl rfl rfl ?_
                        refine l_l (light_fa rfl rfl) rfl rfl ?_
                        refine l_x (x_storeTo (l' := cW bv bs ({ ({ u with R := u.R.set (a - 65344).toNat x } : PU) with line := 0, dot := 0 } : PU)) 0 rfl rfl rfl rfl rfl rfl (by rw [cW_len ((hu.setn (n := a - 65344) hx (by omega) (by omega)).line_ (x := 0) (by decide))]; simp only [List.length_cons, List.length_nil]; omega) (putW_dot ((hu.setn (n := a - 65344) hx (by omega) (by omega)).line_ (x := 0) (by decide)) _)) rfl rfl ?_
                        rintro _ _ ⟨rfl, rfl⟩
                        try simp only [List.set_cons_zero, List.set_cons_succ]
                        refine l_l rfl rfl rfl ?_
                        refine l_l (light_fa rfl rfl) rfl rfl ?_
                        refine l_x (x_storeTo (l' := cW bv bs ({ ({ u with R := u.R.set (a - 65344).toNat x } : PU) with line := 0, dot := 0, own := 0 } : PU)) 0 rfl rfl rfl rfl rfl rfl (by rw [cW_len (((hu.setn (n := a - 65344) hx (by omega) (by omega)).line_ (x := 0) (by decide)).dot_ (x := 0) (by decide))]; simp only [List.length_cons, List.length_nil]; omega) (putW_own (((hu.setn (n := a - 65344) hx (by omega) (by omega)).line_ (x := 0) (by decide)).dot_ (x := 0) (by decide)) _)) rfl rfl ?_
                        rintro _ _ ⟨rfl, rfl⟩
                        try simp only [List.set_cons_zero, List.set_cons_succ]
                        refine l_nil ?_
                        refine c_seq ?_
                        refine c_region ?_
                        refine l_l rfl rfl rfl ?_
                        have hs9 : putU u (a - 65344) x = ({ ({ u with R := u.R.set (a - 65344).toNat x } : PU) with line := 0, dot := 0, own := 0 } : PU) := by
                          unfold putU; rw [set_n (by omega) (by omega)]; exact off_yes (by simp_all) (by simp_all)
                        have hw9 : (putU u (a - 65344) x).Wf := (hu.set hx (by omega)).off _
                        refine l_heap (H' := RH b bv bs (putU u (a - 65344) x)) (fun _ h => h.as (by rw [hs9])) ?_
                        refine l_x (x_callA call_52 rfl (fun w hw => stat_fn b bv bs (putU u (a - 65344) x) hw9 w (St.lentA hw))) rfl rfl ?_
                        rintro _ _ ⟨rfl, rfl⟩
                        refine l_l rfl rfl rfl ?_
                        refine l_nil ?_
                        refine c_ret ?_
                        exact l_end (fun _ _ => rets_v rfl) (List.Sublist.refl _) ⟨congrArg _ (wv_no' x ⟨by omega, by omega⟩ (by omega)).symm, by rw [write_no' x ⟨by omega, by omega⟩ (by omega)]⟩
                      · have h27n := by first | exact of_decide_eq_true h27 | exact of_decide_eq_false h27 | exact eq_of_beq h27 | exact ne_of_beq_false h27 | exact bne_t h27 | exact bne_f h27 | exact h27
                        refine c_skip ?_
                        refine c_seq ?_
                        refine c_region ?_
                        refine l_l rfl rfl rfl ?_
                        have hs9 : putU u (a - 65344) x = { u with R := u.R.set (a - 65344).toNat x } := by
                          unfold putU; rw [set_n (by omega) (by omega)]; exact off_no (by simp_all)
                        have hw9 : (putU u (a - 65344) x).Wf := (hu.set hx (by omega)).off _
                        refine l_heap (H' := RH b bv bs (putU u (a - 65344) x)) (fun _ h => h.as (by rw [hs9])) ?_
                        refine l_x (x_callA call_52 rfl (fun w hw => stat_fn b bv bs (putU u (a - 65344) x) hw9 w (St.lentA hw))) rfl rfl ?_
                        rintro _ _ ⟨rfl, rfl⟩
                        refine l_l rfl rfl rfl ?_
                        refine l_nil ?_
                        refine c_ret ?_
                        exact l_end (fun _ _ => rets_v rfl) (List.Sublist.refl _) ⟨congrArg _ (wv_no' x ⟨by omega, by omega⟩ (by omega)).symm, by rw [write_no' x ⟨by omega, by omega⟩ (by omega)]⟩
                    · have h26n := by first | exact of_decide_eq_true h26 | exact of_decide_eq_false h26 | exact eq_of_beq h26 | exact ne_of_beq_false h26 | exact bne_t h26 | exact bne_f h26 | exact h26
                      refine l_p rfl rfl ?_
                      refine l_p rfl rfl ?_
                      refine l_p rfl rfl ?_
                      refine l_l rfl rfl rfl ?_
                      refine l_nil ?_
                      refine c_false rfl ?_
                      refine c_skip ?_
                      refine c_seq ?_
                      refine c_region ?_
                      refine l_l rfl rfl rfl ?_
                      have hs9 : putU u (a - 65344) x = { u with R := u.R.set (a - 65344).toNat x } := by
                        unfold putU; rw [set_n (by omega) (by omega)]; exact off_no (by simp_all)
                      have hw9 : (putU u (a - 65344) x).Wf := (hu.set hx (by omega)).off _
                      refine l_heap (H' := RH b bv bs (putU u (a - 65344) x)) (fun _ h => h.as (by rw [hs9])) ?_
                      refine l_x (x_callA call_52 rfl (fun w hw => stat_fn b bv bs (putU u (a - 65344) x) hw9 w (St.lentA hw))) rfl rfl ?_
                      rintro _ _ ⟨rfl, rfl⟩
                      refine l_l rfl rfl rfl ?_
                      refine l_nil ?_
                      refine c_ret ?_
                      exact l_end (fun _ _ => rets_v rfl) (List.Sublist.refl _) ⟨congrArg _ (wv_no' x ⟨by omega, by omega⟩ (by omega)).symm, by rw [write_no' x ⟨by omega, by omega⟩ (by omega)]⟩
    · have h2n := by first | exact of_decide_eq_true h2 | exact of_decide_eq_false h2 | exact eq_of_beq h2 | exact ne_of_beq_false h2 | exact bne_t h2 | exact bne_f h2 | exact h2
      refine l_p rfl rfl ?_
      refine l_p rfl rfl ?_
      refine l_l rfl rfl rfl ?_
      refine l_nil ?_
      refine c_false rfl ?_
      refine c_skip ?_
      refine c_seq ?_
      refine c_seq ?_
      refine c_region ?_
      refine l_l rfl rfl rfl ?_
      refine l_l rfl rfl rfl ?_
      refine l_b rfl rfl rfl (fun h28 => ?_) (fun h28 => ?_)
      · have h28n := by first | exact of_decide_eq_true h28 | exact of_decide_eq_false h28 | exact eq_of_beq h28 | exact ne_of_beq_false h28 | exact bne_t h28 | exact bne_f h28 | exact h28
        refine l_l rfl rfl rfl ?_
        refine l_l rfl rfl rfl ?_
        refine l_l rfl rfl rfl ?_
        refine l_nil ?_
        refine c_cond rfl (fun h29 => ?_) (fun h29 => ?_)
        · have h29n := by first | exact of_decide_eq_true h29 | exact of_decide_eq_false h29 | exact eq_of_beq h29 | exact ne_of_beq_false h29 | exact bne_t h29 | exact bne_f h29 | exact h29
          refine c_seq ?_
          refine c_region ?_
          refine l_l rfl rfl rfl ?_
          refine l_l rfl rfl rfl ?_
          refine l_l (light_fa rfl rfl) rfl rfl ?_
          refine l_x (x_load rfl rfl (at_own (by repeat (first | exact .head _ | refine .tail _ ?_ | refine List.mem_append_right _ ?_)) (cW_O hu (bv := bv) (bs := bs)))) rfl rfl ?_
          rintro _ _ ⟨rfl, rfl⟩
          refine l_l rfl rfl rfl ?_
          refine l_as (l_sub rfl rfl) rfl rfl (by first | exact as_i64 (by omega) (by omega) | rfl) ?_
          refine l_l rfl rfl rfl ?_
          refine l_l (idx_sliceI rfl rfl rfl (by omega) (by rw [hu.lO]; omega)) rfl rfl ?_
          refine l_x (x_storeTo (l' := (u.O.set (a - 65024).toNat x).map (.int .u8)) 2 rfl rfl rfl rfl rfl rfl (by rw [List.length_map, hu.lO]; simp only [List.length_cons, List.length_nil]; omega) (by rw [Nat.zero_add]; exact putL_int .u8 (by rw [hu.lO]; omega) x)) rfl rfl ?_
          rintro _ _ ⟨rfl, rfl⟩
          simp only [List.set_cons_zero, List.set_cons_succ]
          refine l_nil ?_
          refine c_seq ?_
          refine c_region ?_
          refine l_l rfl rfl rfl ?_
          refine l_nil ?_
          refine c_ret ?_
          exact l_end (fun _ _ => rets_v rfl) (List.Sublist.refl _) ⟨congrArg _ (w_O x h1 (by omega)).2.symm, by rw [(w_O x h1 (by omega)).1]; rfl⟩
        · have h29n := by first | exact of_decide_eq_true h29 | exact of_decide_eq_false h29 | exact eq_of_beq h29 | exact ne_of_beq_false h29 | exact bne_t h29 | exact bne_f h29 | exact h29
          refine c_skip ?_
          refine c_seq ?_
          refine c_seq ?_
          refine c_region ?_
          refine l_l rfl rfl rfl ?_
          refine l_l rfl rfl rfl ?_
          refine l_b rfl rfl rfl (fun h30 => ?_) (fun h30 => ?_)
          · have h30n := by first | exact of_decide_eq_true h30 | exact of_decide_eq_false h30 | exact eq_of_beq h30 | exact ne_of_beq_false h30 | exact bne_t h30 | exact bne_f h30 | exact h30
            refine l_p rfl rfl ?_
            refine l_p rfl rfl ?_
            refine l_l rfl rfl rfl ?_
            refine l_l rfl rfl rfl ?_
            refine l_p rfl rfl ?_
            refine l_p rfl rfl ?_
            refine l_l rfl rfl rfl ?_
            refine l_nil ?_
            refine c_true rfl ?_
            refine c_seq ?_
            refine c_region ?_
            refine l_l rfl rfl rfl ?_
            refine l_nil ?_
            refine c_ret ?_
            exact l_end (fun _ _ => rets_v rfl) (List.Sublist.refl _) ⟨congrArg _ (wv_no _ ⟨by omega, by omega⟩ (numU_no (by omega))).symm, by rw [write_no _ ⟨by omega, by omega⟩ (numU_no (by omega))]⟩
          · have h30n := by first | exact of_decide_eq_true h30 | exact of_decide_eq_false h30 | exact eq_of_beq h30 | exact ne_of_beq_false h30 | exact bne_t h30 | exact bne_f h30 | exact h30
            refine l_l rfl rfl rfl ?_
            refine l_l rfl rfl rfl ?_
            refine l_l rfl rfl rfl ?_
            refine l_b rfl rfl rfl (fun h31 => ?_) (fun h31 => ?_)
            · have h31n := by first | exact of_decide_eq_true h31 | exact of_decide_eq_false h31 | exact eq_of_beq h31 | exact ne_of_beq_false h31 | exact bne_t h31 | exact bne_f h31 | exact h31
              refine l_p rfl rfl ?_
              refine l_p rfl rfl ?_
              refine l_l rfl rfl rfl ?_
              refine l_nil ?_
              refine c_true rfl ?_
              refine c_seq ?_
              refine c_region ?_
              refine l_l rfl rfl rfl ?_
              refine l_nil ?_
              refine c_ret ?_
              exact l_end (fun _ _ => rets_v rfl) (List.Sublist.refl _) ⟨congrArg _ (wv_no _ ⟨by omega, by omega⟩ (numU_no (by omega))).symm, by rw [write_no _ ⟨by omega, by omega⟩ (numU_no (by omega))]⟩
            · have h31n := by first | exact of_decide_eq_true h31 | exact of_decide_eq_false h31 | exact eq_of_beq h31 | exact ne_of_beq_false h31 | exact bne_t h31 | exact bne_f h31 | exact h31
              refine l_l rfl rfl rfl ?_
              refine l_l rfl rfl rfl ?_
              refine l_l rfl rfl rfl ?_
              refine l_nil ?_
              refine c_cond rfl (fun h32 => ?_) (fun h32 => ?_)
              · have h32n := by first | exact of_decide_eq_true h32 | exact of_decide_eq_false h32 | exact eq_of_beq h32 | exact ne_of_beq_false h32 | exact bne_t h32 | exact bne_f h32 | exact h32
                refine c_seq ?_
                refine c_region ?_
                refine l_l rfl rfl rfl ?_
                refine l_nil ?_
                refine c_ret ?_
                exact l_end (fun _ _ => rets_v rfl) (List.Sublist.refl _) ⟨congrArg _ (wv_no _ ⟨by omega, by omega⟩ (numU_no (by omega))).symm, by rw [write_no _ ⟨by omega, by omega⟩ (numU_no (by omega))]⟩
              · have h32n := by first | exact of_decide_eq_true h32 | exact of_decide_eq_false h32 | exact eq_of_beq h32 | exact ne_of_beq_false h32 | exact bne_t h32 | exact bne_f h32 | exact h32
                refine c_skip ?_
                refine c_seq ?_
                refine c_region ?_
                refine l_l rfl rfl rfl ?_
                refine l_x (x_val call_48 rfl (fun w hw => on_fn b bv bs u hu w (RRow.of hw (by repeat (first | exact .head _ | refine .tail _ ?_ | refine List.mem_append_right _ ?_)) (by repeat (first | exact .head _ | refine .tail _ ?_ | refine List.mem_append_right _ ?_)) (by repeat (first | exact .head _ | refine .tail _ ?_ | refine List.mem_append_right _ ?_))))) rfl rfl ?_
                rintro _ _ ⟨rfl, rfl⟩
                refine l_l rfl rfl rfl ?_
                refine l_nil ?_
                refine c_seq ?_
                refine c_seq ?_
                refine c_region ?_
                refine l_l rfl rfl rfl ?_
                refine l_nil ?_
                refine c_block ?_
                refine c_seq ?_
                refine c_region ?_
                refine l_l rfl rfl rfl ?_
                refine l_l rfl rfl rfl ?_
                refine l_nil ?_
                refine c_cond rfl (fun h33 => ?_) (fun h33 => ?_)
                · have h33n := by first | exact of_decide_eq_true h33 | exact of_decide_eq_false h33 | exact eq_of_beq h33 | exact ne_of_beq_false h33 | exact bne_t h33 | exact bne_f h33 | exact h33
                  refine c_region ?_
                  refine l_l rfl rfl rfl ?_
                  refine l_l rfl rfl rfl ?_
                  refine l_as (quo_pos rfl rfl (by decide)) rfl rfl (by first | exact as_quo (by omega) (show _ < (256 : Int) by omega) (by decide) | rfl) ?_
                  refine l_as (rem_pos rfl rfl (by decide)) rfl rfl (by first | exact as_rem (by omega) | rfl) ?_
                  refine l_as (v := (.int .u8 (band .u8 x 120))) rfl rfl rfl (by rw [← told_law hx]; exact congrArg _ (wrap_u8_id (by omega) (by omega))) ?_
                  refine l_l rfl rfl rfl ?_
                  refine l_l (light_fa rfl rfl) rfl rfl ?_
                  refine l_l (by first | exact idx_array1 1 rfl rfl rfl rfl (by decide) | exact idx_slice1 1 rfl rfl rfl rfl (by decide) | exact idx_array 1 rfl rfl rfl rfl (by decide) | exact idx_slice 1 rfl rfl rfl rfl (by decide)) rfl rfl ?_
                  refine l_x (x_storeTo (l' := cW bv bs { u with R := u.R.set 1 (band .u8 x 120) }) 0 rfl rfl rfl rfl rfl rfl (by rw [cW_len hu]; simp only [List.length_cons, List.length_nil]; omega) (putW_R hu (j := 1) (by decide) _)) rfl rfl ?_
                  rintro _ _ ⟨rfl, rfl⟩
                  try simp only [List.set_cons_zero, List.set_cons_succ]
                  refine l_nil ?_
                  refine c_seq ?_
                  refine c_seq ?_
                  refine c_region ?_
                  refine l_l rfl rfl rfl ?_
                  refine l_b rfl rfl rfl (fun h34 => ?_) (fun h34 => ?_)
                  · have h34n := by first | exact of_decide_eq_true h34 | exact of_decide_eq_false h34 | exact eq_of_beq h34 | exact ne_of_beq_false h34 | exact bne_t h34 | exact bne_f h34 | exact h34
                    refine l_l rfl rfl rfl ?_
                    refine l_x (x_val call_48 rfl (fun w hw => on_fn b bv bs ({ u with R := u.R.set 1 (band .u8 x 120) }) (hu.set1 hx) w (RRow.of hw (by repeat (first | exact .head _ | refine .tail _ ?_ | refine List.mem_append_right _ ?_)) (by repeat (first | exact .head _ | refine .tail _ ?_ | refine List.mem_append_right _ ?_)) (by repeat (first | exact .head _ | refine .tail _ ?_ | refine List.mem_append_right _ ?_))))) rfl rfl ?_
                    rintro _ _ ⟨rfl, rfl⟩
                    refine l_l rfl rfl rfl ?_
                    refine l_l rfl rfl rfl ?_
                    refine l_nil ?_
                    refine c_cond rfl (fun h35 => ?_) (fun h35 => ?_)
                    · have h35n := by first | exact of_decide_eq_true h35 | exact of_decide_eq_false h35 | exact eq_of_beq h35 | exact ne_of_beq_false h35 | exact bne_t h35 | exact bne_f h35 | exact h35
                      refine c_region ?_
                      refine l_l rfl rfl rfl ?_
                      refine l_l rfl rfl rfl ?_
                      refine l_l rfl rfl rfl ?_
                      refine l_l rfl rfl rfl ?_
                      refine l_l (light_fa rfl rfl) rfl rfl ?_
                      refine l_x (x_storeTo (l' := cW bv bs ({ ({ u with R := u.R.set 1 (band .u8 x 120) } : PU) with line := 0 } : PU)) 0 rfl rfl rfl rfl rfl rfl (by rw [cW_len (hu.set1 hx)]; simp only [List.length_cons, List.length_nil]; omega) (putW_line (hu.set1 hx) _)) rfl rfl ?_
                      rintro _ _ ⟨rfl, rfl⟩
                      try simp only [List.set_cons_zero, List.set_cons_succ]
                      refine l_l rfl rfl rfl ?_
                      refine l_l (light_fa rfl rfl) rfl rfl ?_
                      refine l_x (x_storeTo (l' := cW bv bs ({ ({ u with R := u.R.set 1 (band .u8 x 120) } : PU) with line := 0, dot := 0 } : PU)) 0 rfl rfl rfl rfl rfl rfl (by rw [cW_len ((hu.set1 hx).line_ (x := 0) (by decide))]; simp only [List.length_cons, List.length_nil]; omega) (putW_dot ((hu.set1 hx).line_ (x := 0) (by decide)) _)) rfl rfl ?_
                      rintro _ _ ⟨rfl, rfl⟩
                      try simp only [List.set_cons_zero, List.set_cons_succ]
                      refine l_l rfl rfl rfl ?_
                      refine l_l (light_fa rfl rfl) rfl rfl ?_
                      refine l_x (x_storeTo (l' := cW bv bs ({ ({ u with R := u.R.set 1 (band .u8 x 120) } : PU) with line := 0, dot := 0, own := 0 } : PU)) 0 rfl rfl rfl rfl rfl rfl (by rw [cW_len (((hu.set1 hx).line_ (x := 0) (by decide)).dot_ (x := 0) (by decide))]; simp only [List.length_cons, List.length_nil]; omega) (putW_own (((hu.set1 hx).line_ (x := 0) (by decide)).dot_ (x := 0) (by decide)) _)) rfl rfl ?_
                      rintro _ _ ⟨rfl, rfl⟩
                      try simp only [List.set_cons_zero, List.set_cons_succ]
                      refine l_nil ?_
                      refine c_seq ?_
                      refine c_region ?_
                      refine l_l rfl rfl rfl ?_
                      have hs9 : putU u (a - 65344) x = ({ ({ u with R := u.R.set 1 (band .u8 x 120) } : PU) with line := 0, dot := 0, own := 0 } : PU) := by
                        unfold putU; rw [set_1 (by omega)]; exact off_yes (by simp_all) (by simp_all)
                      have hw9 : (putU u (a - 65344) x).Wf := (hu.set hx (by omega)).off _
                      refine l_heap (H' := RH b bv bs (putU u (a - 65344) x)) (fun _ h => h.as (by rw [hs9])) ?_
                      refine l_x (x_callA call_52 rfl (fun w hw => stat_fn b bv bs (putU u (a - 65344) x) hw9 w (St.lentA hw))) rfl rfl ?_
                      rintro _ _ ⟨rfl, rfl⟩
                      refine l_l rfl rfl rfl ?_
                      refine l_nil ?_
                      refine c_ret ?_
                      exact l_end (fun _ _ => rets_v rfl) (List.Sublist.refl _) ⟨congrArg _ (wv_no' x ⟨by omega, by omega⟩ (by omega)).symm, by rw [write_no' x ⟨by omega, by omega⟩ (by omega)]⟩
                    · have h35n := by first | exact of_decide_eq_true h35 | exact of_decide_eq_false h35 | exact eq_of_beq h35 | exact ne_of_beq_false h35 | exact bne_t h35 | exact bne_f h35 | exact h35
                      refine c_skip ?_
                      refine c_seq ?_
                      refine c_region ?_
                      refine l_l rfl rfl rfl ?_
                      have hs9 : putU u (a - 65344) x = { u with R := u.R.set 1 (band .u8 x 120) } := by
                        unfold putU; rw [set_1 (by omega)]; exact off_no (by simp_all)
                      have hw9 : (putU u (a - 65344) x).Wf := (hu.set hx (by omega)).off _
                      refine l_heap (H' := RH b bv bs (putU u (a - 65344) x)) (fun _ h => h.as (by rw [hs9])) ?_
                      refine l_x (x_callA call_52 rfl (fun w hw => stat_fn b bv bs (putU u (a - 65344) x) hw9 w (St.lentA hw))) rfl rfl ?_
                      rintro _ _ ⟨rfl, rfl⟩
                      refine l_l rfl rfl rfl ?_
                      refine l_nil ?_
                      refine c_ret ?_
                      exact l_end (fun _ _ => rets_v rfl) (List.Sublist.refl _) ⟨congrArg _ (wv_no' x ⟨by omega, by omega⟩ (by omega)).symm, by rw [write_no' x ⟨by omega, by omega⟩ (by omega)]⟩
                  · have h34n := by first | exact of_decide_eq_true h34 | exact of_decide_eq_false h34 | exact eq_of_beq h34 | exact ne_of_beq_false h34 | exact bne_t h34 | exact bne_f h34 | exact h34
                    refine l_p rfl rfl ?_
                    refine l_p rfl rfl ?_
                    refine l_p rfl rfl ?_
                    refine l_l rfl rfl rfl ?_
                    refine l_nil ?_
                    refine c_false rfl ?_
                    refine c_skip ?_
                    refine c_seq ?_
                    refine c_region ?_
                    refine l_l rfl rfl rfl ?_
                    have hs9 : putU u (a - 65344) x = { u with R := u.R.set 1 (band .u8 x 120) } := by
                      unfold putU; rw [set_1 (by omega)]; exact off_no (by simp_all)
                    have hw9 : (putU u (a - 65344) x).Wf := (hu.set hx (by omega)).off _
                    refine l_heap (H' := RH b bv bs (putU u (a - 65344) x)) (fun _ h => h.as (by rw [hs9])) ?_
                    refine l_x (x_callA call_52 rfl (fun w hw => stat_fn b bv bs (putU u (a - 65344) x) hw9 w (St.lentA hw))) rfl rfl ?_
                    rintro _ _ ⟨rfl, rfl⟩
                    refine l_l rfl rfl rfl ?_
                    refine l_nil ?_
                    refine c_ret ?_
                    exact l_end (fun _ _ => rets_v rfl) (List.Sublist.refl _) ⟨congrArg _ (wv_no' x ⟨by omega, by omega⟩ (by omega)).symm, by rw [write_no' x ⟨by omega, by omega⟩ (by omega)]⟩
                · have h33n := by first | exact of_decide_eq_true h33 | exact of_decide_eq_false h33 | exact eq_of_beq h33 | exact ne_of_beq_false h33 | exact bne_t h33 | exact bne_f h33 | exact h33
                  refine c_seq ?_
                  refine c_region ?_
                  refine l_l rfl rfl rfl ?_
                  refine l_l rfl rfl rfl ?_
                  refine l_nil ?_
                  refine c_cond rfl (fun h36 => ?_) (fun h36 => ?_)
                  · have h36n := by first | exact of_decide_eq_true h36 | exact of_decide_eq_false h36 | exact eq_of_beq h36 | exact ne_of_beq_false h36 | exact bne_t h36 | exact bne_f h36 | exact h36
                    refine c_skip ?_
                    refine c_seq ?_
                    refine c_seq ?_
                    refine c_region ?_
                    refine l_l rfl rfl rfl ?_
                    refine l_b rfl rfl rfl (fun h37 => ?_) (fun h37 => ?_)
                    · have h37n := by first | exact of_decide_eq_true h37 | exact of_decide_eq_false h37 | exact eq_of_beq h37 | exact ne_of_beq_false h37 | exact bne_t h37 | exact bne_f h37 | exact h37
                      refine l_l rfl rfl rfl ?_
                      refine l_x (x_val call_48 rfl (fun w hw => on_fn b bv bs (u) hu w (RRow.of hw (by repeat (first | exact .head _ | refine .tail _ ?_ | refine List.mem_append_right _ ?_)) (by repeat (first | exact .head _ | refine .tail _ ?_ | refine List.mem_append_right _ ?_)) (by repeat (first | exact .head _ | refine .tail _ ?_ | refine List.mem_append_right _ ?_))))) rfl rfl ?_
                      rintro _ _ ⟨rfl, rfl⟩
                      refine l_l rfl rfl rfl ?_
                      refine l_l rfl rfl rfl ?_
                      refine l_nil ?_
                      refine c_cond rfl (fun h38 => ?_) (fun h38 => ?_)
                      · have h38n := by first | exact of_decide_eq_true h38 | exact of_decide_eq_false h38 | exact eq_of_beq h38 | exact ne_of_beq_false h38 | exact bne_t h38 | exact bne_f h38 | exact h38
                        refine c_region ?_
                        refine l_l rfl rfl rfl ?_
                        refine l_l rfl rfl rfl ?_
                        refine l_l rfl rfl rfl ?_
                        refine l_l rfl rfl rfl ?_
                        refine l_l (light_fa rfl rfl) rfl rfl ?_
                        refine l_x (x_storeTo (l' := cW bv bs ({ (u : PU) with line := 0 } : PU)) 0 rfl rfl rfl rfl rfl rfl (by rw [cW_len hu]; simp only [List.length_cons, List.length_nil]; omega) (putW_line hu _)) rfl rfl ?_
                        rintro _ _ ⟨rfl, rfl⟩
                        try simp only [List.set_cons_zero, List.set_cons_succ]
                        refine l_l rfl rfl rfl ?_
                        refine l_l (light_fa rfl rfl) rfl rfl ?_
                        refine l_x (x_storeTo (l' := cW bv bs ({ (u : PU) with line := 0, dot := 0 } : PU)) 0 rfl rfl rfl rfl rfl rfl (by rw [cW_len (hu.line_ (x := 0) (by decide))]; simp only [List.length_cons, List.length_nil]; omega) (putW_dot (hu.line_ (x := 0) (by decide)) _)) rfl rfl ?_
                        rintro _ _ ⟨rfl, rfl⟩
                        try simp only [List.set_cons_zero, List.set_cons_succ]
                        refine l_l rfl rfl rfl ?_
                        refine l_l (light_fa rfl rfl) rfl rfl ?_
                        refine l_x (x_storeTo (l' := cW bv bs ({ (u : PU) with line := 0, dot := 0, own := 0 } : PU)) 0 rfl rfl rfl rfl rfl rfl (by rw [cW_len ((hu.line_ (x := 0) (by decide)).dot_ (x := 0) (by decide))]; simp only [List.length_cons, List.length_nil]; omega) (putW_own ((hu.line_ (x := 0) (by decide)).dot_ (x := 0) (by decide)) _)) rfl rfl ?_
                        rintro _ _ ⟨rfl, rfl⟩
                        try simp only [List.set_cons_zero, List.set_cons_succ]
                        refine l_nil ?_
                        refine c_seq ?_
                        refine c_region ?_
                        refine l_l rfl rfl rfl ?_
                        have hs9 : putU u (a - 65344) x = ({ (u : PU) with line := 0, dot := 0, own := 0 } : PU) := by
                          unfold putU; rw [set_4 (by omega)]; exact off_yes (by simp_all) (by simp_all)
                        have hw9 : (putU u (a - 65344) x).Wf := (hu.set hx (by omega)).off _
                        refine l_heap (H' := RH b bv bs (putU u (a - 65344) x)) (fun _ h => h.as (by rw [hs9])) ?_
                        refine l_x (x_callA call_52 rfl (fun w hw => stat_fn b bv bs (putU u (a - 65344) x) hw9 w (St.lentA hw))) rfl rfl ?_
                        rintro _ _ ⟨rfl, rfl⟩
                        refine l_l rfl rfl rfl ?_
                        refine l_nil ?_
                        refine c_ret ?_
                        exact l_end (fun _ _ => rets_v rfl) (List.Sublist.refl _) ⟨congrArg _ (wv_no' x ⟨by omega, by omega⟩ (by omega)).symm, by rw [write_no' x ⟨by omega, by omega⟩ (by omega)]⟩
                      · have h38n := by first | exact of_decide_eq_true h38 | exact of_decide_eq_false h38 | exact eq_of_beq h38 | exact ne_of_beq_false h38 | exact bne_t h38 | exact bne_f h38 | exact h38
                        refine c_skip ?_
                        refine c_seq ?_
                        refine c_region ?_
                        refine l_l rfl rfl rfl ?_
                        have hs9 : putU u (a - 65344) x = u := by
                          unfold putU; rw [set_4 (by omega)]; exact off_no (by simp_all)
                        have hw9 : (putU u (a - 65344) x).Wf := (hu.set hx (by omega)).off _
                        refine l_heap (H' := RH b bv bs (putU u (a - 65344) x)) (fun _ h => h.as (by rw [hs9])) ?_
                        refine l_x (x_callA call_52 rfl (fun w hw => stat_fn b bv bs (putU u (a - 65344) x) hw9 w (St.lentA hw))) rfl rfl ?_
                        rintro _ _ ⟨rfl, rfl⟩
                        refine l_l rfl rfl rfl ?_
                        refine l_nil ?_
                        refine c_ret ?_
                        exact l_end (fun _ _ => rets_v rfl) (List.Sublist.refl _) ⟨congrArg _ (wv_no' x ⟨by omega, by omega⟩ (by omega)).symm, by rw [write_no' x ⟨by omega, by omega⟩ (by omega)]⟩
                    · have h37n := by first | exact of_decide_eq_true h37 | exact of_decide_eq_false h37 | exact eq_of_beq h37 | exact ne_of_beq_false h37 | exact bne_t h37 | exact bne_f h37 | exact h37
                      refine l_p rfl rfl ?_
                      refine l_p rfl rfl ?_
                      refine l_p rfl rfl ?_
                      refine l_l rfl rfl rfl ?_
                      refine l_nil ?_
                      refine c_false rfl ?_
                      refine c_skip ?_
                      refine c_seq ?_
                      refine c_region ?_
                      refine l_l rfl rfl rfl ?_
                      have hs9 : putU u (a - 65344) x = u := by
                        unfold putU; rw [set_4 (by omega)]; exact off_no (by simp_all)
                      have hw9 : (putU u (a - 65344) x).Wf := (hu.set hx (by omega)).off _
                      refine l_heap (H' := RH b bv bs (putU u (a - 65344) x)) (fun _ h => h.as (by rw [hs9])) ?_
                      refine l_x (x_callA call_52 rfl (fun w hw => stat_fn b bv bs (putU u (a - 65344) x) hw9 w (St.lentA hw))) rfl rfl ?_
                      rintro _ _ ⟨rfl, rfl⟩
                      refine l_l rfl rfl rfl ?_
                      refine l_nil ?_
                      refine c_ret ?_
                      exact l_end (fun _ _ => rets_v rfl) (List.Sublist.refl _) ⟨congrArg _ (wv_no' x ⟨by omega, by omega⟩ (by omega)).symm, by rw [write_no' x ⟨by omega, by omega⟩ (by omega)]⟩
                  · have h36n := by first | exact of_decide_eq_true h36 | exact of_decide_eq_false h36 | exact eq_of_beq h36 | exact ne_of_beq_false h36 | exact bne_t h36 | exact bne_f h36 | exact h36
                    refine c_region ?_
                    refine l_l rfl rfl rfl ?_
                    refine l_l rfl rfl rfl ?_
                    refine l_as (l_sub rfl rfl) rfl rfl (by first | exact as_i64 (by omega) (by omega) | rfl) ?_
                    refine l_l rfl rfl rfl ?_
                    refine l_l rfl rfl rfl ?_
                    refine l_l (light_fa rfl rfl) rfl rfl ?_
                    refine l_l (idx_arrayI rfl rfl rfl (by omega) (by omega)) rfl rfl ?_
                    refine l_x (x_storeTo (l' := cW bv bs { u with R := u.R.set (a - 65344).toNat x }) 0 rfl rfl rfl rfl rfl rfl (by rw [cW_len hu]; simp only [List.length_cons, List.length_nil]; omega) (putW_R hu (j := (a - 65344).toNat) (by omega) x)) rfl rfl ?_
                    rintro _ _ ⟨rfl, rfl⟩
                    try simp only [List.set_cons_zero, List.set_cons_succ]
                    refine l_nil ?_
                    refine c_seq ?_
                    refine c_seq ?_
                    refine c_region ?_
                    refine l_l rfl rfl rfl ?_
                    refine l_b rfl rfl rfl (fun h39 => ?_) (fun h39 => ?_)
                    · have h39n := by first | exact of_decide_eq_true h39 | exact of_decide_eq_false h39 | exact eq_of_beq h39 | exact ne_of_beq_false h39 | exact bne_t h39 | exact bne_f h39 | exact h39
                      refine l_l rfl rfl rfl ?_
                      refine l_x (x_val call_48 rfl (fun w hw => on_fn b bv bs ({ u with R := u.R.set (a - 65344).toNat x }) (hu.setn (n := a - 65344) hx (by omega) (by omega)) w (RRow.of hw (by repeat (first | exact .head _ | refine .tail _ ?_ | refine List.mem_append_right _ ?_)) (by repeat (first | exact .head _ | refine .tail _ ?_ | refine List.mem_append_right _ ?_)) (by repeat (first | exact .head _ | refine .tail _ ?_ | refine List.mem_append_right _ ?_))))) rfl rfl ?_
                      rintro _ _ ⟨rfl, rfl⟩
                      refine l_l rfl rfl rfl ?_
                      refine l_l rfl rfl rfl ?_
                      refine l_nil ?_
                      refine c_cond rfl (fun h40 => ?_) (fun h40 => ?_)
                      · have h40n := by first | exact of_decide_eq_true h40 | exact of_decide_eq_false h40 | exact eq_of_beq h40 | exact ne_of_beq_false h40 | exact bne_t h40 | exact bne_f h40 | exact h40
                        refine c_region ?_
                        refine l_l rfl rfl rfl ?_
                        refine l_l rfl rfl rfl ?_
                        refine l_l rfl rfl rfl ?_
                        refine l_l rfl rfl rfl ?_
                        refine l_l (light_fa rfl rfl) rfl rfl ?_
                        refine l_x (x_storeTo (l' := cW bv bs ({ ({ u with R := u.R.set (a - 65344).toNat x } : PU) with line := 0 } : PU)) 0 rfl rfl rfl rfl rfl rfl (by rw [cW_len (hu.setn (n := a - 65344) hx (by omega) (by omega))]; simp only [List.length_cons, List.length_nil]; omega) (putW_line (hu.setn (n := a - 65344) hx (by omega) (by omega)) _)) rfl rfl ?_
                        rintro _ _ ⟨rfl, rfl⟩
                        try simp only [List.set_cons_zero, List.set_cons_succ]
                        refine l_l rfl rfl rfl ?_
                        refine l_l (light_fa rfl rfl) rfl rfl ?_
                        refine l_x (x_storeTo (l' := cW bv bs ({ ({ u with R := u.R.set (a - 65344).toNat x } : PU) with line := 0, dot := 0 } : PU)) 0 rfl rfl rfl rfl rfl rfl (by rw [cW_len ((hu.setn (n := a - 65344) hx (by omega) (by omega)).line_ (x := 0) (by decide))]; simp only [List.length_cons, List.length_nil]; omega) (putW_dot ((hu.setn (n := a - 65344) hx (by omega) (by omega)).line_ (x := 0) (by decide)) _)) rfl rfl ?_
                        rintro _ _ ⟨rfl, rfl⟩
                        try simp only [List.set_cons_zero, List.set_cons_succ]
                        refine l_l rfl rfl rfl ?_
                        refine l_l (light_fa rfl rfl) rfl rfl ?_
                        refine l_x (x_storeTo (l' := cW bv bs ({ ({ u with R := u.R.set (a - 65344).toNat x } : PU) with line := 0, dot := 0, own := 0 } : PU)) 0 rfl rfl rfl rfl rfl rfl (by rw [cW_len (((hu.setn (n := a - 65344) hx (by omega) (by omega)).line_ (x := 0) (by decide)).dot_ (x := 0) (by decide))]; simp only [List.length_cons, List.length_nil]; omega) (putW_own (((hu.setn (n := a - 65344) hx (by omega) (by omega)).line_ (x := 0) (by decide)).dot_ (x := 0) (by decide)) _)) rfl rfl ?_
                        rintro _ _ ⟨rfl, rfl⟩
                        try simp only [List.set_cons_zero, List.set_cons_succ]
                        refine l_nil ?_
                        refine c_seq ?_
                        refine c_region ?_
                        refine l_l rfl rfl rfl ?_
                        have hs9 : putU u (a - 65344) x = ({ ({ u with R := u.R.set (a - 65344).toNat x } : PU) with line := 0, dot := 0, own := 0 } : PU) := by
                          unfold putU; rw [set_n (by omega) (by omega)]; exact off_yes (by simp_all) (by simp_all)
                        have hw9 : (putU u (a - 65344) x).Wf := (hu.set hx (by omega)).off _
                        refine l_heap (H' := RH b bv bs (putU u (a - 65344) x)) (fun _ h => h.as (by rw [hs9])) ?_
                        refine l_x (x_callA call_52 rfl (fun w hw => stat_fn b bv bs (putU u (a - 65344) x) hw9 w (St.lentA hw))) rfl rfl ?_
                        rintro _ _ ⟨rfl, rfl⟩
                        refine l_l rfl rfl rfl ?_
                        refine l_nil ?_
                        refine c_ret ?_
                        exact l_end (fun _ _ => rets_v rfl) (List.Sublist.refl _) ⟨congrArg _ (wv_no' x ⟨by omega, by omega⟩ (by omega)).symm, by rw [write_no' x ⟨by omega, by omega⟩ (by omega)]⟩
                      · have h40n := by first | exact of_decide_eq_true h40 | exact of_decide_eq_false h40 | exact eq_of_beq h40 | exact ne_of_beq_false h40 | exact bne_t h40 | exact bne_f h40 | exact h40
                        refine c_skip ?_
                        refine c_seq ?_
                        refine c_region ?_
                        refine l_l rfl rfl rfl ?_
                        have hs9 : putU u (a - 65344) x = { u with R := u.R.set (a - 65344).toNat x } := by
                          unfold putU; rw [set_n (by omega) (by omega)]; exact off_no (by simp_all)
                        have hw9 : (putU u (a - 65344) x).Wf := (hu.set hx (by omega)).off _
                        refine l_heap (H' := RH b bv bs (putU u (a - 65344) x)) (fun _ h => h.as (by rw [hs9])) ?_
                        refine l_x (x_callA call_52 rfl (fun w hw => stat_fn b bv bs (putU u (a - 65344) x) hw9 w (St.lentA hw))) rfl rfl ?_
                        rintro _ _ ⟨rfl, rfl⟩
                        refine l_l rfl rfl rfl ?_
                        refine l_nil ?_
                        refine c_ret ?_
                        exact l_end (fun _ _ => rets_v rfl) (List.Sublist.refl _) ⟨congrArg _ (wv_no' x ⟨by omega, by omega⟩ (by omega)).symm, by rw [write_no' x ⟨by omega, by omega⟩ (by omega)]⟩
                    · have h39n := by first | exact of_decide_eq_true h39 | exact of_decide_eq_false h39 | exact eq_of_beq h39 | exact ne_of_beq_false h39 | exact bne_t h39 | exact bne_f h39 | exact h39
                      refine l_p rfl rfl ?_
                      refine l_p rfl rfl ?_
                      refine l_p rfl rfl ?_
                      refine l_l rfl rfl rfl ?_
                      refine l_nil ?_
                      refine c_false rfl ?_
                      refine c_skip ?_
                      refine c_seq ?_
                      refine c_region ?_
                      refine l_l rfl rfl rfl ?_
                      have hs9 : putU u (a - 65344) x = { u with R := u.R.set (a - 65344).toNat x } := by
                        unfold putU; rw [set_n (by omega) (by omega)]; exact off_no (by simp_all)
                      have hw9 : (putU u (a - 65344) x).Wf := (hu.set hx (by omega)).off _
                      refine l_heap (H' := RH b bv bs (putU u (a - 65344) x)) (fun _ h => h.as (by rw [hs9])) ?_
                      refine l_x (x_callA call_52 rfl (fun w hw => stat_fn b bv bs (putU u (a - 65344) x) hw9 w (St.lentA hw))) rfl rfl ?_
                      rintro _ _ ⟨rfl, rfl⟩
                      refine l_l rfl rfl rfl ?_
                      refine l_nil ?_
                      refine c_ret ?_
                      exact l_end (fun _ _ => rets_v rfl) (List.Sublist.refl _) ⟨congrArg _ (wv_no' x ⟨by omega, by omega⟩ (by omega)).symm, by rw [write_no' x ⟨by omega, by omega⟩ (by omega)]⟩
      · have h28n := by first | exact of_decide_eq_true h28 | exact of_decide_eq_false h28 | exact eq_of_beq h28 | exact ne_of_beq_false h28 | exact bne_t h28 | exact bne_f h28 | exact h28
        refine l_p rfl rfl ?_
        refine l_p rfl rfl ?_
        refine l_l rfl rfl rfl ?_
        refine l_nil ?_
        refine c_false rfl ?_
        refine c_skip ?_
        refine c_seq ?_
        refine c_seq ?_
        refine c_region ?_
        refine l_l rfl rfl rfl ?_
        refine l_l rfl rfl rfl ?_
        refine l_b rfl rfl rfl (fun h41 => ?_) (fun h41 => ?_)
        · have h41n := by first | exact of_decide_eq_true h41 | exact of_decide_eq_false h41 | exact eq_of_beq h41 | exact ne_of_beq_false h41 | exact bne_t h41 | exact bne_f h41 | exact h41
          refine l_p rfl rfl ?_
          refine l_p rfl rfl ?_
          refine l_l rfl rfl rfl ?_
          refine l_l rfl rfl rfl ?_
          refine l_p rfl rfl ?_
          refine l_p rfl rfl ?_
          refine l_l rfl rfl rfl ?_
          refine l_nil ?_
          refine c_true rfl ?_
          refine c_seq ?_
          refine c_region ?_
          refine l_l rfl rfl rfl ?_
          refine l_nil ?_
          refine c_ret ?_
          exact l_end (fun _ _ => rets_v rfl) (List.Sublist.refl _) ⟨congrArg _ (wv_no _ ⟨by omega, by omega⟩ (numU_no (by omega))).symm, by rw [write_no _ ⟨by omega, by omega⟩ (numU_no (by omega))]⟩
        · have h41n := by first | exact of_decide_eq_true h41 | exact of_decide_eq_false h41 | exact eq_of_beq h41 | exact ne_of_beq_false h41 | exact bne_t h41 | exact bne_f h41 | exact h41
          refine l_l rfl rfl rfl ?_
          refine l_l rfl rfl rfl ?_
          refine l_l rfl rfl rfl ?_
          refine l_b rfl rfl rfl (fun h42 => ?_) (fun h42 => ?_)
          · have h42n := by first | exact of_decide_eq_true h42 | exact of_decide_eq_false h42 | exact eq_of_beq h42 | exact ne_of_beq_false h42 | exact bne_t h42 | exact bne_f h42 | exact h42
            refine l_p rfl rfl ?_
            refine l_p rfl rfl ?_
            refine l_l rfl rfl rfl ?_
            refine l_nil ?_
            refine c_true rfl ?_
            refine c_seq ?_
            refine c_region ?_
            refine l_l rfl rfl rfl ?_
            refine l_nil ?_
            refine c_ret ?_
            exact l_end (fun _ _ => rets_v rfl) (List.Sublist.refl _) ⟨congrArg _ (wv_no _ ⟨by omega, by omega⟩ (numU_no (by omega))).symm, by rw [write_no _ ⟨by omega, by omega⟩ (numU_no (by omega))]⟩
          · have h42n := by first | exact of_decide_eq_true h42 | exact of_decide_eq_false h42 | exact eq_of_beq h42 | exact ne_of_beq_false h42 | exact bne_t h42 | exact bne_f h42 | exact h42
            refine l_l rfl rfl rfl ?_
            refine l_l rfl rfl rfl ?_
            refine l_l rfl rfl rfl ?_
            refine l_nil ?_
            refine c_cond rfl (fun h43 => ?_) (fun h43 => ?_)
            · have h43n := by first | exact of_decide_eq_true h43 | exact of_decide_eq_false h43 | exact eq_of_beq h43 | exact ne_of_beq_false h43 | exact bne_t h43 | exact bne_f h43 | exact h43
              refine c_seq ?_
              refine c_region ?_
              refine l_l rfl rfl rfl ?_
              refine l_nil ?_
              refine c_ret ?_
              exact l_end (fun _ _ => rets_v rfl) (List.Sublist.refl _) ⟨congrArg _ (wv_no _ ⟨by omega, by omega⟩ (numU_no (by omega))).symm, by rw [write_no _ ⟨by omega, by omega⟩ (numU_no (by omega))]⟩
            · have h43n := by first | exact of_decide_eq_true h43 | exact of_decide_eq_false h43 | exact eq_of_beq h43 | exact ne_of_beq_false h43 | exact bne_t h43 | exact bne_f h43 | exact h43
              refine c_skip ?_
              refine c_seq ?_
              refine c_region ?_
              refine l_l rfl rfl rfl ?_
              refine l_x (x_val call_48 rfl (fun w hw => on_fn b bv bs u hu w (RRow.of hw (by repeat (first | exact .head _ | refine .tail _ ?_ | refine List.mem_append_right _ ?_)) (by repeat (first | exact .head _ | refine .tail _ ?_ | refine List.mem_append_right _ ?_)) (by repeat (first | exact .head _ | refine .tail _ ?_ | refine List.mem_append_right _ ?_))))) rfl rfl ?_
              rintro _ _ ⟨rfl, rfl⟩
              refine l_l rfl rfl rfl ?_
              refine l_nil ?_
              refine c_seq ?_
              refine c_seq ?_
              refine c_region ?_
              refine l_l rfl rfl rfl ?_
              refine l_nil ?_
              refine c_block ?_
              refine c_seq ?_
              refine c_region ?_
              refine l_l rfl rfl rfl ?_
              refine l_l rfl rfl rfl ?_
              refine l_nil ?_
              refine c_cond rfl (fun h44 => ?_) (fun h44 => ?_)
              · have h44n := by first | exact of_decide_eq_true h44 | exact of_decide_eq_false h44 | exact eq_of_beq h44 | exact ne_of_beq_false h44 | exact bne_t h44 | exact bne_f h44 | exact h44
                refine c_region ?_
                refine l_l rfl rfl rfl ?_
                refine l_l rfl rfl rfl ?_
                refine l_as (quo_pos rfl rfl (by decide)) rfl rfl (by first | exact as_quo (by omega) (show _ < (256 : Int) by omega) (by decide) | rfl) ?_
                refine l_as (rem_pos rfl rfl (by decide)) rfl rfl (by first | exact as_rem (by omega) | rfl) ?_
                refine l_as (v := (.int .u8 (band .u8 x 120))) rfl rfl rfl (by rw [← told_law hx]; exact congrArg _ (wrap_u8_id (by omega) (by omega))) ?_
                refine l_l rfl rfl rfl ?_
                refine l_l (light_fa rfl rfl) rfl rfl ?_
                refine l_l (by first | exact idx_array1 1 rfl rfl rfl rfl (by decide) | exact idx_slice1 1 rfl rfl rfl rfl (by decide) | exact idx_array 1 rfl rfl rfl rfl (by decide) | exact idx_slice 1 rfl rfl rfl rfl (by decide)) rfl rfl ?_
                refine l_x (x_storeTo (l' := cW bv bs { u with R := u.R.set 1 (band .u8 x 120) }) 0 rfl rfl rfl rfl rfl rfl (by rw [cW_len hu]; simp only [List.length_cons, List.length_nil]; omega) (putW_R hu (j := 1) (by decide) _)) rfl rfl ?_
                rintro _ _ ⟨rfl, rfl⟩
                try simp only [List.set_cons_zero, List.set_cons_succ]
                refine l_nil ?_
                refine c_seq ?_
                refine c_seq ?_
                refine c_region ?_
                refine l_l rfl rfl rfl ?_
                refine l_b rfl rfl rfl (fun h45 => ?_) (fun h45 => ?_)
                · have h45n := by first | exact of_decide_eq_true h45 | exact of_decide_eq_false h45 | exact eq_of_beq h45 | exact ne_of_beq_false h45 | exact bne_t h45 | exact bne_f h45 | exact h45
                  refine l_l rfl rfl rfl ?_
                  refine l_x (x_val call_48 rfl (fun w hw => on_fn b bv bs ({ u with R := u.R.set 1 (band .u8 x 120) }) (hu.set1 hx) w (RRow.of hw (by repeat (first | exact .head _ | refine .tail _ ?_ | refine List.mem_append_right _ ?_)) (by repeat (first | exact .head _ | refine .tail _ ?_ | refine List.mem_append_right _ ?_)) (by repeat (first | exact .head _ | refine .tail _ ?_ | refine List.mem_append_right _ ?_))))) rfl rfl ?_
                  rintro _ _ ⟨rfl, rfl⟩
                  refine l_l rfl rfl rfl ?_
                  refine l_l rfl rfl rfl ?_
                  refine l_nil ?_
                  refine c_cond rfl (fun h46 => ?_) (fun h46 => ?_)
                  · have h46n := by first | exact of_decide_eq_true h46 | exact of_decide_eq_false h46 | exact eq_of_beq h46 | exact ne_of_beq_false h46 | exact bne_t h46 | exact bne_f h46 | exact h46
                    refine c_region ?_
                    refine l_l rfl rfl rfl ?_
                    refine l_l rfl rfl rfl ?_
                    refine l_l rfl rfl rfl ?_
                    refine l_l rfl rfl rfl ?_
                    refine l_l (light_fa rfl rfl) rfl rfl ?_
                    refine l_x (x_storeTo (l' := cW bv bs ({ ({ u with R := u.R.set 1 (band .u8 x 120) } : PU) with line := 0 } : PU)) 0 rfl rfl rfl rfl rfl rfl (by rw [cW_len (hu.set1 hx)]; simp only [List.length_cons, List.length_nil]; omega) (putW_line (hu.set1 hx) _)) rfl rfl ?_
                    rintro _ _ ⟨rfl, rfl⟩
                    try simp only [List.set_cons_zero, List.set_cons_succ]
                    refine l_l rfl rfl rfl ?_
                    refine l_l (light_fa rfl rfl) rfl rfl ?_
                    refine l_x (x_storeTo (l' := cW bv bs ({ ({ u with R := u.R.set 1 (band .u8 x 120) } : PU) with line := 0, dot := 0 } : PU)) 0 rfl rfl rfl rfl rfl rfl (by rw [cW_len ((hu.set1 hx).line_ (x := 0) (by decide))]; simp only [List.length_cons, List.length_nil]; omega) (putW_dot ((hu.set1 hx).line_ (x := 0) (by decide)) _)) rfl rfl ?_
                    rintro _ _ ⟨rfl, rfl⟩
                    try simp only [List.set_cons_zero, List.set_cons_succ]
                    refine l_l rfl rfl rfl ?_
                    refine l_l (light_fa rfl rfl) rfl rfl ?_
                    refine l_x (x_storeTo (l' := cW bv bs ({ ({ u with R := u.R.set 1 (band .u8 x 120) } : PU) with line := 0, dot := 0, own := 0 } : PU)) 0 rfl rfl rfl rfl rfl rfl (by rw [cW_len (((hu.set1 hx).line_ (x := 0) (by decide)).dot_ (x := 0) (by decide))]; simp only [List.length_cons, List.length_nil]; omega) (putW_own (((hu.set1 hx).line_ (x := 0) (by decide)).dot_ (x := 0) (by decide)) _)) rfl rfl ?_
                    rintro _ _ ⟨rfl, rfl⟩
                    try simp only [List.set_cons_zero, List.set_cons_succ]
                    refine l_nil ?_
                    refine c_seq ?_
                    refine c_region ?_
                    refine l_l rfl rfl rfl ?_
                    have hs9 : putU u (a - 65344) x = ({ ({ u with R := u.R.set 1 (band .u8 x 120) } : PU) with line := 0, dot := 0, own := 0 } : PU) := by
                      unfold putU; rw [set_1 (by omega)]; exact off_yes (by simp_all) (by simp_all)
                    have hw9 : (putU u (a - 65344) x).Wf := (hu.set hx (by omega)).off _
                    refine l_heap (H' := RH b bv bs (putU u (a - 65344) x)) (fun _ h => h.as (by rw [hs9])) ?_
                    refine l_x (x_callA call_52 rfl (fun w hw => stat_fn b bv bs (putU u (a - 65344) x) hw9 w (St.lentA hw))) rfl rfl ?_
                    rintro _ _ ⟨rfl, rfl⟩
                    refine l_l rfl rfl rfl ?_
                    refine l_nil ?_
                    refine c_ret ?_
                    exact l_end (fun _ _ => rets_v rfl) (List.Sublist.refl _) ⟨congrArg _ (wv_no' x ⟨by omega, by omega⟩ (by omega)).symm, by rw [write_no' x ⟨by omega, by omega⟩ (by omega)]⟩
                  · have h46n := by first | exact of_decide_eq_true h46 | exact of_decide_eq_false h46 | exact eq_of_beq h46 | exact ne_of_beq_false h46 | exact bne_t h46 | exact bne_f h46 | exact h46
                    refine c_skip ?_
                    refine c_seq ?_
                    refine c_region ?_
                    refine l_l rfl rfl rfl ?_
                    have hs9 : putU u (a - 65344) x = { u with R := u.R.set 1 (band .u8 x 120) } := by
                      unfold putU; rw [set_1 (by omega)]; exact off_no (by simp_all)
                    have hw9 : (putU u (a - 65344) x).Wf := (hu.set hx (by omega)).off _
                    refine l_heap (H' := RH b bv bs (putU u (a - 65344) x)) (fun _ h => h.as (by rw [hs9])) ?_
                    refine l_x (x_callA call_52 rfl (fun w hw => stat_fn b bv bs (putU u (a - 65344) x) hw9 w (St.lentA hw))) rfl rfl ?_
                    rintro _ _ ⟨rfl, rfl⟩
                    refine l_l rfl rfl rfl ?_
                    refine l_nil ?_
                    refine c_ret ?_
                    exact l_end (fun _ _ => rets_v rfl) (List.Sublist.refl _) ⟨congrArg _ (wv_no' x ⟨by omega, by omega⟩ (by omega)).symm, by rw [write_no' x ⟨by omega, by omega⟩ (by omega)]⟩
                · have h45n := by first | exact of_decide_eq_true h45 | exact of_decide_eq_false h45 | exact eq_of_beq h45 | exact ne_of_beq_false h45 | exact bne_t h45 | exact bne_f h45 | exact h45
                  refine l_p rfl rfl ?_
                  refine l_p rfl rfl ?_
                  refine l_p rfl rfl ?_
                  refine l_l rfl rfl rfl ?_
                  refine l_nil ?_
                  refine c_false rfl ?_
                  refine c_skip ?_
                  refine c_seq ?_
                  refine c_region ?_
                  refine l_l rfl rfl rfl ?_
                  have hs9 : putU u (a - 65344) x = { u with R := u.R.set 1 (band .u8 x 120) } := by
                    unfold putU; rw [set_1 (by omega)]; exact off_no (by simp_all)
                  have hw9 : (putU u (a - 65344) x).Wf := (hu.set hx (by omega)).off _
                  refine l_heap (H' := RH b bv bs (putU u (a - 65344) x)) (fun _ h => h.as (by rw [hs9])) ?_
                  refine l_x (x_callA call_52 rfl (fun w hw => stat_fn b bv bs (putU u (a - 65344) x) hw9 w (St.lentA hw))) rfl rfl ?_
                  rintro _ _ ⟨rfl, rfl⟩
                  refine l_l rfl rfl rfl ?_
                  refine l_nil ?_
                  refine c_ret ?_
                  exact l_end (fun _ _ => rets_v rfl) (List.Sublist.refl _) ⟨congrArg _ (wv_no' x ⟨by omega, by omega⟩ (by omega)).symm, by rw [write_no' x ⟨by omega, by omega⟩ (by omega)]⟩
              · have h44n := by first | exact of_decide_eq_true h44 | exact of_decide_eq_false h44 | exact eq_of_beq h44 | exact ne_of_beq_false h44 | exact bne_t h44 | exact bne_f h44 | exact h44
                refine c_seq ?_
                refine c_region ?_
                refine l_l rfl rfl rfl ?_
                refine l_l rfl rfl rfl ?_
                refine l_nil ?_
                refine c_cond rfl (fun h47 => ?_) (fun h47 => ?_)
                · have h47n := by first | exact of_decide_eq_true h47 | exact of_decide_eq_false h47 | exact eq_of_beq h47 | exact ne_of_beq_false h47 | exact bne_t h47 | exact bne_f h47 | exact h47
                  refine c_skip ?_
                  refine c_seq ?_
                  refine c_seq ?_
                  refine c_region ?_
                  refine l_l rfl rfl rfl ?_
                  refine l_b rfl rfl rfl (fun h48 => ?_) (fun h48 => ?_)
                  · have h48n := by first | exact of_decide_eq_true h48 | exact of_decide_eq_false h48 | exact eq_of_beq h48 | exact ne_of_beq_false h48 | exact bne_t h48 | exact bne_f h48 | exact h48
                    refine l_l rfl rfl rfl ?_
                    refine l_x (x_val call_48 rfl (fun w hw => on_fn b bv bs (u) hu w (RRow.of hw (by repeat (first | exact .head _ | refine .tail _ ?_ | refine List.mem_append_right _ ?_)) (by repeat (first | exact .head _ | refine .tail _ ?_ | refine List.mem_append_right _ ?_)) (by repeat (first | exact .head _ | refine .tail _ ?_ | refine List.mem_append_right _ ?_))))) rfl rfl ?_
                    rintro _ _ ⟨rfl, rfl⟩
                    refine l_l rfl rfl rfl ?_
                    refine l_l rfl rfl rfl ?_
                    refine l_nil ?_
                    refine c_cond rfl (fun h49 => ?_) (fun h49 => ?_)
                    · have h49n := by first | exact of_decide_eq_true h49 | exact of_decide_eq_false h49 | exact eq_of_beq h49 | exact ne_of_beq_false h49 | exact bne_t h49 | exact bne_f h49 | exact h49
                      refine c_region ?_
                      refine l_l rfl rfl rfl ?_
                      refine l_l rfl rfl rfl ?_
                      refine l_l rfl rfl rfl ?_
                      refine l_l rfl rfl rfl ?_
                      refine l_l (light_fa rfl rfl) rfl rfl ?_
                      refine l_x (x_storeTo (l' := cW bv bs ({ (u : PU) with line := 0 } : PU)) 0 rfl rfl rfl rfl rfl rfl (by rw [cW_len hu]; simp only [List.length_cons, List.length_nil]; omega) (putW_line hu _)) rfl rfl ?_
                      rintro _ _ ⟨rfl, rfl⟩
                      try simp only [List.set_cons_zero, List.set_cons_succ]
                      refine l_l rfl rfl rfl ?_
                      refine l_l (light_fa rfl rfl) rfl rfl ?_
                      refine l_x (x_storeTo (l' := cW bv bs ({ (u : PU) with line := 0, dot := 0 } : PU)) 0 rfl rfl rfl rfl rfl rfl (by rw [cW_len (hu.line_ (x := 0) (by decide))]; simp only [List.length_cons, List.length_nil]; omega) (putW_dot (hu.line_ (x := 0) (by decide)) _)) rfl rfl ?_
                      rintro _ _ ⟨rfl, rfl⟩
                      try simp only [List.set_cons_zero, List.set_cons_succ]
                      refine l_l rfl rfl rfl ?_
                      refine l_l (light_fa rfl rfl) rfl rfl ?_
                      refine l_x (x_storeTo (l' := cW bv bs ({ (u : PU) with line := 0, dot := 0, own := 0 } : PU)) 0 rfl rfl rfl rfl rfl rfl (by rw [cW_len ((hu.line_ (x := 0) (by decide)).dot_ (x := 0) (by decide))]; simp only [List.length_cons, List.length_nil]; omega) (putW_own ((hu.line_ (x := 0) (by decide)).dot_ (x := 0) (by decide)) _)) rfl rfl ?_
                      rintro _ _ ⟨rfl, rfl⟩
                      try simp only [List.set_cons_zero, List.set_cons_succ]
                      refine l_nil ?_
                      refine c_seq ?_
                      refine c_region ?_
                      refine l_l rfl rfl rfl ?_
                      have hs9 : putU u (a - 65344) x = ({ (u : PU) with line := 0, dot := 0, own := 0 } : PU) := by
                        unfold putU; rw [set_4 (by omega)]; exact off_yes (by simp_all) (by simp_all)
                      have hw9 : (putU u (a - 65344) x).Wf := (hu.set hx (by omega)).off _
                      refine l_heap (H' := RH b bv bs (putU u (a - 65344) x)) (fun _ h => h.as (by rw [hs9])) ?_
                      refine l_x (x_callA call_52 rfl (fun w hw => stat_fn b bv bs (putU u (a - 65344) x) hw9 w (St.lentA hw))) rfl rfl ?_
                      rintro _ _ ⟨rfl, rfl⟩
                      refine l_l rfl rfl rfl ?_
                      refine l_nil ?_
                      refine c_ret ?_
                      exact l_end (fun _ _ => rets_v rfl) (List.Sublist.refl _) ⟨congrArg _ (wv_no' x ⟨by omega, by omega⟩ (by omega)).symm, by rw [write_no' x ⟨by omega, by omega⟩ (by omega)]⟩
                    · have h49n := by first | exact of_decide_eq_true h49 | exact of_decide_eq_false h49 | exact eq_of_beq h49 | exact ne_of_beq_false h49 | exact bne_t h49 | exact bne_f h49 | exact h49
                      refine c_skip ?_
                      refine c_seq ?_
                      refine c_region ?_
                      refine l_l rfl rfl rfl ?_
                      have hs9 : putU u (a - 65344) x = u := by
                        unfold putU; rw [set_4 (by omega)]; exact off_no (by simp_all)
                      have hw9 : (putU u (a - 65344) x).Wf := (hu.set hx (by omega)).off _
                      refine l_heap (H' := RH b bv bs (putU u (a - 65344) x)) (fun _ h => h.as (by rw [hs9])) ?_
                      refine l_x (x_callA call_52 rfl (fun w hw => stat_fn b bv bs (putU u (a - 65344) x) hw9 w (St.lentA hw))) rfl rfl ?_
                      rintro _ _ ⟨rfl, rfl⟩
                      refine l_l rfl rfl rfl ?_
                      refine l_nil ?_
                      refine c_ret ?_
                      exact l_end (fun _ _ => rets_v rfl) (List.Sublist.refl _) ⟨congrArg _ (wv_no' x ⟨by omega, by omega⟩ (by omega)).symm, by rw [write_no' x ⟨by omega, by omega⟩ (by omega)]⟩
                  · have h48n := by first | exact of_decide_eq_true h48 | exact of_decide_eq_false h48 | exact eq_of_beq h48 | exact ne_of_beq_false h48 | exact bne_t h48 | exact bne_f h48 | exact h48
                    refine l_p rfl rfl ?_
                    refine l_p rfl rfl ?_
                    refine l_p rfl rfl ?_
                    refine l_l rfl rfl rfl ?_
                    refine l_nil ?_
                    refine c_false rfl ?_
                    refine c_skip ?_
                    refine c_seq ?_
                    refine c_region ?_
                    refine l_l rfl rfl rfl ?_
                    have hs9 : putU u (a - 65344) x = u := by
                      unfold putU; rw [set_4 (by omega)]; exact off_no (by simp_all)
                    have hw9 : (putU u (a - 65344) x).Wf := (hu.set hx (by omega)).off _
                    refine l_heap (H' := RH b bv bs (putU u (a - 65344) x)) (fun _ h => h.as (by rw [hs9])) ?_
                    refine l_x (x_callA call_52 rfl (fun w hw => stat_fn b bv bs (putU u (a - 65344) x) hw9 w (St.lentA hw))) rfl rfl ?_
                    rintro _ _ ⟨rfl, rfl⟩
                    refine l_l rfl rfl rfl ?_
                    refine l_nil ?_
                    refine c_ret ?_
                    exact l_end (fun _ _ => rets_v rfl) (List.Sublist.refl _) ⟨congrArg _ (wv_no' x ⟨by omega, by omega⟩ (by omega)).symm, by rw [write_no' x ⟨by omega, by omega⟩ (by omega)]⟩
                · have h47n := by first | exact of_decide_eq_true h47 | exact of_decide_eq_false h47 | exact eq_of_beq h47 | exact ne_of_beq_false h47 | exact bne_t h47 | exact bne_f h47 | exact h47
                  refine c_region ?_
                  refine l_l rfl rfl rfl ?_
                  refine l_l rfl rfl rfl ?_
                  refine l_as (l_sub rfl rfl) rfl rfl (by first | exact as_i64 (by omega) (by omega) | rfl) ?_
                  refine l_l rfl rfl rfl ?_
                  refine l_l rfl rfl rfl ?_
                  refine l_l (light_fa rfl rfl) rfl rfl ?_
                  refine l_l (idx_arrayI rfl rfl rfl (by omega) (by omega)) rfl rfl ?_
                  refine l_x (x_storeTo (l' := cW bv bs { u with R := u.R.set (a - 65344).toNat x }) 0 rfl rfl rfl rfl rfl rfl (by rw [cW_len hu]; simp only [List.length_cons, List.length_nil]; omega) (putW_R hu (j := (a - 65344).toNat) (by omega) x)) rfl rfl ?_
                  rintro _ _ ⟨rfl, rfl⟩
                  try simp only [List.set_cons_zero, List.set_cons_succ]
                  refine l_nil ?_
                  refine c_seq ?_
                  refine c_seq ?_
                  refine c_region ?_
                  refine l_l rfl rfl rfl ?_
                  refine l_b rfl rfl rfl (fun h50 => ?_) (fun h50 => ?_)
                  · have h50n := by first | exact of_decide_eq_true h50 | exact of_decide_eq_false h50 | exact eq_of_beq h50 | exact ne_of_beq_false h50 | exact bne_t h50 | exact bne_f h50 | exact h50
                    refine l_l rfl rfl rfl ?_
                    refine l_x (x_val call_48 rfl (fun w hw => on_fn b bv bs ({ u with R := u.R.set (a - 65344).toNat x }) (hu.setn (n := a - 65344) hx (by omega) (by omega)) w (RRow.of hw (by repeat (first | exact .head _ | refine .tail _ ?_ | refine List.mem_append_right _ ?_)) (by repeat (first | exact .head _ | refine .tail _ ?_ | refine List.mem_append_right _ ?_)) (by repeat (first | exact .head _ | refine .tail _ ?_ | refine List.mem_append_right _ ?_))))) rfl rfl ?_
                    rintro _ _ ⟨rfl, rfl⟩
                    refine l_l rfl rfl rfl ?_
                    refine l_l rfl rfl rfl ?_
                    refine l_nil ?_
                    refine c_cond rfl (fun h51 => ?_) (fun h51 => ?_)
                    · have h51n := by first | exact of_decide_eq_true h51 | exact of_decide_eq_false h51 | exact eq_of_beq h51 | exact ne_of_beq_false h51 | exact bne_t h51 | exact bne_f h51 | exact h51
                      refine c_region ?_
                      refine l_l rfl rfl rfl ?_
                      refine l_l rfl rfl rfl ?_
                      refine l_l rfl rfl rfl ?_
                      refine l_l rfl rfl rfl ?_
                      refine l_l (light_fa rfl rfl) rfl rfl ?_
                      refine l_x (x_storeTo (l' := cW bv bs ({ ({ u with R := u.R.set (a - 65344).toNat x } : PU) with line := 0 } : PU)) 0 rfl rfl rfl rfl rfl rfl (by rw [cW_len (hu.setn (n := a - 65344) hx (by omega) (by omega))]; simp only [List.length_cons, List.length_nil]; omega) (putW_line (hu.setn (n := a - 65344) hx (by omega) (by omega)) _)) rfl rfl ?_
                      rintro _ _ ⟨rfl, rfl⟩
                      try simp only [List.set_cons_zero, List.set_cons_succ]
                      refine l_l rfl rfl rfl ?_
                      refine l_l (light_fa rfl rfl) rfl rfl ?_
                      refine l_x (x_storeTo (l' := cW bv bs ({ ({ u with R := u.R.set (a - 65344).toNat x } : PU) with line := 0, dot := 0 } : PU)) 0 rfl rfl rfl rfl rfl rfl (by rw [cW_len ((hu.setn (n := a - 65344) hx (by omega) (by omega)).line_ (x := 0) (by decide))]; simp only [List.length_cons, List.length_nil]; omega) (putW_dot ((hu.setn (n := a - 65344) hx (by omega) (by omega)).line_ (x := 0) (by decide)) _)) rfl rfl ?_
                      rintro _ _ ⟨rfl, rfl⟩
                      try simp only [List.set_cons_zero, List.set_cons_succ]
                      refine l_l rfl rfl rfl ?_
                      refine l_l (light_fa rfl rfl) rfl rfl ?_
                      refine l_x (x_storeTo (l' := cW bv bs ({ ({ u with R := u.R.set (a - 65344).toNat x } : PU) with line := 0, dot := 0, own := 0 } : PU)) 0 rfl rfl rfl rfl rfl rfl (by rw [cW_len (((hu.setn (n := a - 65344) hx (by omega) (by omega)).line_ (x := 0) (by decide)).dot_ (x := 0) (by decide))]; simp only [List.length_cons, List.length_nil]; omega) (putW_own (((hu.setn (n := a - 65344) hx (by omega) (by omega)).line_ (x := 0) (by decide)).dot_ (x := 0) (by decide)) _)) rfl rfl ?_
                      rintro _ _ ⟨rfl, rfl⟩
                      try simp only [List.set_cons_zero, List.set_cons_succ]
                      refine l_nil ?_
                      refine c_seq ?_
                      refine c_region ?_
                      refine l_l rfl rfl rfl ?_
                      have hs9 : putU u (a - 65344) x = ({ ({ u with R := u.R.set (a - 65344).toNat x } : PU) with line := 0, dot := 0, own := 0 } : PU) := by
                        unfold putU; rw [set_n (by omega) (by omega)]; exact off_yes (by simp_all) (by simp_all)
                      have hw9 : (putU u (a - 65344) x).Wf := (hu.set hx (by omega)).off _
                      refine l_heap (H' := RH b bv bs (putU u (a - 65344) x)) (fun _ h => h.as (by rw [hs9])) ?_
                      refine l_x (x_callA call_52 rfl (fun w hw => stat_fn b bv bs (putU u (a - 65344) x) hw9 w (St.lentA hw))) rfl rfl ?_
                      rintro _ _ ⟨rfl, rfl⟩
                      refine l_l rfl rfl rfl ?_
                      refine l_nil ?_
                      refine c_ret ?_
                      exact l_end (fun _ _ => rets_v rfl) (List.Sublist.refl _) ⟨congrArg _ (wv_no' x ⟨by omega, by omega⟩ (by omega)).symm, by rw [write_no' x ⟨by omega, by omega⟩ (by omega)]⟩
                    · have h51n := by first | exact of_decide_eq_true h51 | exact of_decide_eq_false h51 | exact eq_of_beq h51 | exact ne_of_beq_false h51 | exact bne_t h51 | exact bne_f h51 | exact h51
                      refine c_skip ?_
                      refine c_seq ?_
                      refine c_region ?_
                      refine l_l rfl rfl rfl ?_
                      have hs9 : putU u (a - 65344) x = { u with R := u.R.set (a - 65344).toNat x } := by
                        unfold putU; rw [set_n (by omega) (by omega)]; exact off_no (by simp_all)
                      have hw9 : (putU u (a - 65344) x).Wf := (hu.set hx (by omega)).off _
                      refine l_heap (H' := RH b bv bs (putU u (a - 65344) x)) (fun _ h => h.as (by rw [hs9])) ?_
                      refine l_x (x_callA call_52 rfl (fun w hw => stat_fn b bv bs (putU u (a - 65344) x) hw9 w (St.lentA hw))) rfl rfl ?_
                      rintro _ _ ⟨rfl, rfl⟩
                      refine l_l rfl rfl rfl ?_
                      refine l_nil ?_
                      refine c_ret ?_
                      exact l_end (fun _ _ => rets_v rfl) (List.Sublist.refl _) ⟨congrArg _ (wv_no' x ⟨by omega, by omega⟩ (by omega)).symm, by rw [write_no' x ⟨by omega, by omega⟩ (by omega)]⟩
                  · have h50n := by first | exact of_decide_eq_true h50 | exact of_decide_eq_false h50 | exact eq_of_beq h50 | exact ne_of_beq_false h50 | exact bne_t h50 | exact bne_f h50 | exact h50
                    refine l_p rfl rfl ?_
                    refine l_p rfl rfl ?_
                    refine l_p rfl rfl ?_
                    refine l_l rfl rfl rfl ?_
                    refine l_nil ?_
                    refine c_false rfl ?_
                    refine c_skip ?_
                    refine c_seq ?_
                    refine c_region ?_
                    refine l_l rfl rfl rfl ?_
                    have hs9 : putU u (a - 65344) x = { u with R := u.R.set (a - 65344).toNat x } := by
                      unfold putU; rw [set_n (by omega) (by omega)]; exact off_no (by simp_all)
                    have hw9 : (putU u (a - 65344) x).Wf := (hu.set hx (by omega)).off _
                    refine l_heap (H' := RH b bv bs (putU u (a - 65344) x)) (fun _ h => h.as (by rw [hs9])) ?_
                    refine l_x (x_callA call_52 rfl (fun w hw => stat_fn b bv bs (putU u (a - 65344) x) hw9 w (St.lentA hw))) rfl rfl ?_
                    rintro _ _ ⟨rfl, rfl⟩
                    refine l_l rfl rfl rfl ?_
                    refine l_nil ?_
                    refine c_ret ?_
                    exact l_end (fun _ _ => rets_v rfl) (List.Sublist.refl _) ⟨congrArg _ (wv_no' x ⟨by omega, by omega⟩ (by omega)).symm, by rw [write_no' x ⟨by omega, by omega⟩ (by omega)]⟩

end Go.Proofs.Ytjceoaomkbabmaa
