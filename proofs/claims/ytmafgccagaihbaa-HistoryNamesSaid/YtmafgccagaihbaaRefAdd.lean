/- The contracts of the document's Add and Find. -/
import Derived.Test.YtmafgccagaihbaaRefNames
import Derived.Test.YtmafgccagaihbaaNamesE
import Derived.Test.YtmafgccagaihbaaCalls
namespace Go.Proofs.Ytmafgccagaihbaa
open Go Go.VV Go.Proofs
set_option linter.unusedSimpArgs false
set_option linter.unusedVariables false
set_option maxRecDepth 100000
theorem radd_fn (a : Option Addr) (c : Nat) (P W : List Nm) (hT : Tw P W) (x : Nm) (hx : AtOk x) (w : World) (hE : Els w cN a W) :
    Does Try.prog 17 [.slice a W.length c, .agg (cN x).toArray] w [] (RAdd a c P W x) := by
  have hwl := hT.wlen
  have hpl := hT.len
  refine does_of Try.func17 rfl rfl rfl (St.refl w) ?_
  refine c_seq ?_
  refine c_region ?_
  refine l_x (x_box rfl rfl) rfl rfl ?_
  rintro _ _ ⟨b3, rfl, rfl⟩
  refine l_l rfl rfl rfl ?_
  refine l_l rfl rfl rfl ?_
  refine l_nil ?_
  refine c_seq ?_
  refine c_seq ?_
  refine c_region ?_
  refine l_l (light_fa rfl rfl) rfl rfl ?_
  refine l_x (x_load rfl rfl (at_own (by repeat (first | exact .head _ | refine .tail _ ?_ | refine List.mem_append_right _ ?_)) (by rfl))) rfl rfl ?_
  rintro _ _ ⟨rfl, rfl⟩
  refine l_l (by first | exact light_len rfl rfl | exact light_lens rfl rfl | rfl) rfl rfl ?_
  refine l_l rfl rfl rfl ?_
  refine l_b rfl rfl rfl (fun h1 => ?_) (fun h1 => ?_)
  · refine l_p rfl rfl ?_
    refine l_p rfl rfl ?_
    refine l_p rfl rfl ?_
    refine l_p rfl rfl ?_
    refine l_l rfl rfl rfl ?_
    refine l_l rfl rfl rfl ?_
    refine l_p rfl rfl ?_
    refine l_p rfl rfl ?_
    refine l_p rfl rfl ?_
    refine l_l rfl rfl rfl ?_
    refine l_l rfl rfl rfl ?_
    refine l_p rfl rfl ?_
    refine l_p rfl rfl ?_
    refine l_p rfl rfl ?_
    refine l_l rfl rfl rfl ?_
    refine l_nil ?_
    refine c_true rfl ?_
    refine c_seq ?_
    refine c_region ?_
    refine l_l rfl rfl rfl ?_
    refine l_l rfl rfl rfl ?_
    refine l_l rfl rfl rfl ?_
    refine l_nil ?_
    refine c_ret ?_
    exact l_end0 (fun _ _ => rets_v2 rfl rfl) (.inl ⟨by rw [(add_bad (P := P) (by unfold BadP; (try simp only [decide_eq_true_eq, decide_eq_false_iff_not, beq_iff_eq, beq_eq_false_iff_ne, bne_iff_ne, bne_eq_false_iff_eq, ne_eq] at *); omega)).1]; decide, by rw [(add_bad (P := P) (by unfold BadP; (try simp only [decide_eq_true_eq, decide_eq_false_iff_not, beq_iff_eq, beq_eq_false_iff_ne, bne_iff_ne, bne_eq_false_iff_eq, ne_eq] at *); omega)).1], rfl⟩)
  · refine l_l (light_fa rfl rfl) rfl rfl ?_
    refine l_x (x_load rfl rfl (at_own (by repeat (first | exact .head _ | refine .tail _ ?_ | refine List.mem_append_right _ ?_)) (by rfl))) rfl rfl ?_
    rintro _ _ ⟨rfl, rfl⟩
    refine l_l (by first | exact light_len rfl rfl | exact light_lens rfl rfl | rfl) rfl rfl ?_
    refine l_l rfl rfl rfl ?_
    refine l_l rfl rfl rfl ?_
    refine l_b rfl rfl rfl (fun h2 => ?_) (fun h2 => ?_)
    · refine l_p rfl rfl ?_
      refine l_p rfl rfl ?_
      refine l_p rfl rfl ?_
      refine l_l rfl rfl rfl ?_
      refine l_l rfl rfl rfl ?_
      refine l_p rfl rfl ?_
      refine l_p rfl rfl ?_
      refine l_p rfl rfl ?_
      refine l_l rfl rfl rfl ?_
      refine l_nil ?_
      refine c_true rfl ?_
      refine c_seq ?_
      refine c_region ?_
      refine l_l rfl rfl rfl ?_
      refine l_l rfl rfl rfl ?_
      refine l_l rfl rfl rfl ?_
      refine l_nil ?_
      refine c_ret ?_
      exact l_end0 (fun _ _ => rets_v2 rfl rfl) (.inl ⟨by rw [(add_bad (P := P) (by unfold BadP; (try simp only [decide_eq_true_eq, decide_eq_false_iff_not, beq_iff_eq, beq_eq_false_iff_ne, bne_iff_ne, bne_eq_false_iff_eq, ne_eq] at *); omega)).1]; decide, by rw [(add_bad (P := P) (by unfold BadP; (try simp only [decide_eq_true_eq, decide_eq_false_iff_not, beq_iff_eq, beq_eq_false_iff_ne, bne_iff_ne, bne_eq_false_iff_eq, ne_eq] at *); omega)).1], rfl⟩)
    · refine l_l (light_fa rfl rfl) rfl rfl ?_
      refine l_x (x_load rfl rfl (at_own (by repeat (first | exact .head _ | refine .tail _ ?_ | refine List.mem_append_right _ ?_)) (by rfl))) rfl rfl ?_
      rintro _ _ ⟨rfl, rfl⟩
      refine l_l rfl rfl rfl ?_
      refine l_l rfl rfl rfl ?_
      refine l_b rfl rfl rfl (fun h3 => ?_) (fun h3 => ?_)
      · refine l_p rfl rfl ?_
        refine l_p rfl rfl ?_
        refine l_p rfl rfl ?_
        refine l_l rfl rfl rfl ?_
        refine l_nil ?_
        refine c_true rfl ?_
        refine c_seq ?_
        refine c_region ?_
        refine l_l rfl rfl rfl ?_
        refine l_l rfl rfl rfl ?_
        refine l_l rfl rfl rfl ?_
        refine l_nil ?_
        refine c_ret ?_
        exact l_end0 (fun _ _ => rets_v2 rfl rfl) (.inl ⟨by rw [(add_bad (P := P) (by unfold BadP; (try simp only [decide_eq_true_eq, decide_eq_false_iff_not, beq_iff_eq, beq_eq_false_iff_ne, bne_iff_ne, bne_eq_false_iff_eq, ne_eq] at *); omega)).1]; decide, by rw [(add_bad (P := P) (by unfold BadP; (try simp only [decide_eq_true_eq, decide_eq_false_iff_not, beq_iff_eq, beq_eq_false_iff_ne, bne_iff_ne, bne_eq_false_iff_eq, ne_eq] at *); omega)).1], rfl⟩)
      · refine l_l (light_fa rfl rfl) rfl rfl ?_
        refine l_x (x_load rfl rfl (at_own (by repeat (first | exact .head _ | refine .tail _ ?_ | refine List.mem_append_right _ ?_)) (by rfl))) rfl rfl ?_
        rintro _ _ ⟨rfl, rfl⟩
        refine l_l rfl rfl rfl ?_
        refine l_l rfl rfl rfl ?_
        refine l_nil ?_
        refine c_cond rfl (fun h4 => ?_) (fun h4 => ?_)
        · refine c_seq ?_
          refine c_region ?_
          refine l_l rfl rfl rfl ?_
          refine l_l rfl rfl rfl ?_
          refine l_l rfl rfl rfl ?_
          refine l_nil ?_
          refine c_ret ?_
          exact l_end0 (fun _ _ => rets_v2 rfl rfl) (.inl ⟨by rw [(add_bad (P := P) (by unfold BadP; (try simp only [decide_eq_true_eq, decide_eq_false_iff_not, beq_iff_eq, beq_eq_false_iff_ne, bne_iff_ne, bne_eq_false_iff_eq, ne_eq] at *); omega)).1]; decide, by rw [(add_bad (P := P) (by unfold BadP; (try simp only [decide_eq_true_eq, decide_eq_false_iff_not, beq_iff_eq, beq_eq_false_iff_ne, bne_iff_ne, bne_eq_false_iff_eq, ne_eq] at *); omega)).1], rfl⟩)
        · refine c_skip ?_
          refine c_seq ?_
          refine c_seq ?_
          refine c_region ?_
          refine l_l rfl rfl rfl ?_
          refine l_l (by first | exact light_len rfl rfl | exact light_lens rfl rfl | rfl) rfl rfl ?_
          refine l_l rfl rfl rfl ?_
          refine l_nil ?_
          refine c_block ?_
          refine c_loopk (σ := Nat) [4, 5, 6, 30, 31, 32, 33, 34, 35, 36, 37, 38, 39, 40, 41, 42, 43, 44, 45, 46, 47, 48, 49, 50, 51, 52] (fun k => [(30, .int .i64 k)]) (fun k => k ≤ W.length ∧ ∀ z ∈ W.take k, ¬ (z.bank = x.bank ∧ z.at_ = x.at_)) (fun k => W.length - k) 0 ?_ ?_ ?_
          · exact ⟨Nat.zero_le _, fun z hz => by simp at hz⟩
          · exact .cons rfl .nil
          · rintro k y3 ⟨hk, hno⟩
            refine c_seq ?_
            refine c_region ?_
            refine l_l rfl rfl rfl ?_
            refine l_nil ?_
            refine c_seq ?_
            refine c_cond rfl (fun h5 => ?_) (fun h5 => ?_)
            · refine c_skip ?_
              refine c_seq ?_
              refine c_block ?_
              refine c_seq ?_
              obtain ⟨bl, ol, rfl, hr⟩ := hE.row (i := k) (by (try simp only [decide_eq_true_eq, decide_eq_false_iff_not, beq_iff_eq, beq_eq_false_iff_ne, bne_iff_ne, bne_eq_false_iff_eq, ne_eq] at *); omega)
              obtain ⟨y, hy⟩ : ∃ y, W[k]? = some y := ⟨_, get_some (by (try simp only [decide_eq_true_eq, decide_eq_false_iff_not, beq_iff_eq, beq_eq_false_iff_ne, bne_iff_ne, bne_eq_false_iff_eq, ne_eq] at *); omega)⟩
              refine c_region ?_
              refine l_l rfl rfl rfl ?_
              refine l_l rfl rfl rfl ?_
              refine l_nil ?_
              refine c_seq ?_
              refine c_draw _ [5, 6, 14, 15] (.step true 0 (.step true 1 (.step true 2 (.step true 3 (.step true 4 (.step true 5 (.step true 6 (.step true 7 (.step true 8 (.step true 9 (.step true 10 (.step true 11 (.step true 12 (.step true 13 (.step true 14 (.step true 15 (.step true 16 (.step true 17 .done)))))))))))))))))) rfl (by kernel_rfl) (by kernel_rfl) (fun _ h => h) ?_
              refine d_light rfl rfl rfl rfl rfl ?_
              refine d_light rfl rfl rfl rfl rfl ?_
              refine d_light rfl (idx_slice (s := 3) k rfl rfl rfl rfl (by (try simp only [decide_eq_true_eq, decide_eq_false_iff_not, beq_iff_eq, beq_eq_false_iff_ne, bne_iff_ne, bne_eq_false_iff_eq, ne_eq] at *); omega)) rfl rfl rfl ?_
              refine d_light rfl (light_fa rfl rfl) rfl rfl rfl ?_
              refine d_load rfl rfl rfl (fun w hw => (srow_old hr (by simp) w hw).at cN_len hy 0 rfl) rfl rfl ?_
              refine d_light rfl (light_fa rfl rfl) rfl rfl rfl ?_
              refine d_load rfl rfl rfl (s_own (by repeat (first | exact .head _ | refine .tail _ ?_ | refine List.mem_append_right _ ?_)) (by rfl)) rfl rfl ?_
              refine d_light rfl rfl rfl rfl rfl ?_
              refine d_bool rfl rfl rfl rfl (fun h6 => ?_) (fun h6 => ?_)
              · refine d_light rfl rfl rfl rfl rfl ?_
                refine d_light rfl rfl rfl rfl rfl ?_
                refine d_light rfl (idx_slice (s := 3) k rfl rfl rfl rfl (by (try simp only [decide_eq_true_eq, decide_eq_false_iff_not, beq_iff_eq, beq_eq_false_iff_ne, bne_iff_ne, bne_eq_false_iff_eq, ne_eq] at *); omega)) rfl rfl rfl ?_
                refine d_light rfl (light_fa rfl rfl) rfl rfl rfl ?_
                refine d_load rfl rfl rfl (fun w hw => (srow_old hr (by simp) w hw).at cN_len hy 1 rfl) rfl rfl ?_
                refine d_light rfl (light_fa rfl rfl) rfl rfl rfl ?_
                refine d_load rfl rfl rfl (s_own (by repeat (first | exact .head _ | refine .tail _ ?_ | refine List.mem_append_right _ ?_)) (by rfl)) rfl rfl ?_
                refine d_light rfl rfl rfl rfl rfl ?_
                refine d_light rfl rfl rfl rfl rfl ?_
                refine d_nil ?_
                refine c_cond rfl (fun h7 => ?_) (fun h7 => ?_)
                · refine c_seq ?_
                  refine c_region ?_
                  refine l_l rfl rfl rfl ?_
                  refine l_l rfl rfl rfl ?_
                  refine l_l rfl rfl rfl ?_
                  refine l_nil ?_
                  refine c_ret ?_
                  exact l_end0 (fun _ _ => rets_v2 rfl rfl) (.inl ⟨by rw [hT.same (by unfold BadP; (try simp only [decide_eq_true_eq, decide_eq_false_iff_not, beq_iff_eq, beq_eq_false_iff_ne, bne_iff_ne, bne_eq_false_iff_eq, ne_eq] at *); omega) hy (by (try simp only [decide_eq_true_eq, decide_eq_false_iff_not, beq_iff_eq, beq_eq_false_iff_ne, bne_iff_ne, bne_eq_false_iff_eq, ne_eq] at *); omega) (by (try simp only [decide_eq_true_eq, decide_eq_false_iff_not, beq_iff_eq, beq_eq_false_iff_ne, bne_iff_ne, bne_eq_false_iff_eq, ne_eq] at *); omega)]; decide, by rw [hT.same (by unfold BadP; (try simp only [decide_eq_true_eq, decide_eq_false_iff_not, beq_iff_eq, beq_eq_false_iff_ne, bne_iff_ne, bne_eq_false_iff_eq, ne_eq] at *); omega) hy (by (try simp only [decide_eq_true_eq, decide_eq_false_iff_not, beq_iff_eq, beq_eq_false_iff_ne, bne_iff_ne, bne_eq_false_iff_eq, ne_eq] at *); omega) (by (try simp only [decide_eq_true_eq, decide_eq_false_iff_not, beq_iff_eq, beq_eq_false_iff_ne, bne_iff_ne, bne_eq_false_iff_eq, ne_eq] at *); omega)], rfl⟩)
                · refine c_skip ?_
                  refine c_region ?_
                  refine l_as (v := (.int .i64 ((k + 1 : Nat) : Int))) rfl rfl rfl (congrArg _ (succ_law (by omega))) ?_
                  refine l_l rfl rfl rfl ?_
                  refine l_nil ?_
                  exact ⟨k + 1, ⟨by (try simp only [decide_eq_true_eq, decide_eq_false_iff_not, beq_iff_eq, beq_eq_false_iff_ne, bne_iff_ne, bne_eq_false_iff_eq, ne_eq] at *); omega, no_step hy hno (by (try simp only [decide_eq_true_eq, decide_eq_false_iff_not, beq_iff_eq, beq_eq_false_iff_ne, bne_iff_ne, bne_eq_false_iff_eq, ne_eq] at *); omega)⟩, by (try simp only [decide_eq_true_eq, decide_eq_false_iff_not, beq_iff_eq, beq_eq_false_iff_ne, bne_iff_ne, bne_eq_false_iff_eq, ne_eq] at *); omega, .cons rfl .nil, (by repeat (first | exact Agree.refl _ _ | exact Agree.mix rfl | refine Agree.put rfl ?_ | refine Agree.keep rfl ?_)), fun _ h => h⟩
              · refine d_pass rfl rfl rfl ?_
                refine d_pass rfl rfl rfl ?_
                refine d_pass rfl rfl rfl ?_
                refine d_pass rfl rfl rfl ?_
                refine d_pass rfl rfl rfl ?_
                refine d_pass rfl rfl rfl ?_
                refine d_pass rfl rfl rfl ?_
                refine d_pass rfl rfl rfl ?_
                refine d_light rfl rfl rfl rfl rfl ?_
                refine d_nil ?_
                refine c_false rfl ?_
                refine c_skip ?_
                refine c_region ?_
                refine l_as (v := (.int .i64 ((k + 1 : Nat) : Int))) rfl rfl rfl (congrArg _ (succ_law (by omega))) ?_
                refine l_l rfl rfl rfl ?_
                refine l_nil ?_
                exact ⟨k + 1, ⟨by (try simp only [decide_eq_true_eq, decide_eq_false_iff_not, beq_iff_eq, beq_eq_false_iff_ne, bne_iff_ne, bne_eq_false_iff_eq, ne_eq] at *); omega, no_step hy hno (by (try simp only [decide_eq_true_eq, decide_eq_false_iff_not, beq_iff_eq, beq_eq_false_iff_ne, bne_iff_ne, bne_eq_false_iff_eq, ne_eq] at *); omega)⟩, by (try simp only [decide_eq_true_eq, decide_eq_false_iff_not, beq_iff_eq, beq_eq_false_iff_ne, bne_iff_ne, bne_eq_false_iff_eq, ne_eq] at *); omega, .cons rfl .nil, (by repeat (first | exact Agree.refl _ _ | exact Agree.mix rfl | refine Agree.put rfl ?_ | refine Agree.keep rfl ?_)), fun _ h => h⟩
            · refine c_exit rfl ?_
              refine c_seq ?_
              refine c_seq ?_
              obtain rfl : W.length = k := by (try simp only [decide_eq_true_eq, decide_eq_false_iff_not, beq_iff_eq, beq_eq_false_iff_ne, bne_iff_ne, bne_eq_false_iff_eq, ne_eq] at *); omega
              rw [List.take_length] at hno
              refine c_region ?_
              refine l_l rfl rfl rfl ?_
              refine l_l (by first | exact light_len rfl rfl | exact light_lens rfl rfl | rfl) rfl rfl ?_
              refine l_l rfl rfl rfl ?_
              refine l_nil ?_
              refine c_cond rfl (fun h8 => ?_) (fun h8 => ?_)
              · refine c_seq ?_
                refine c_region ?_
                refine l_l rfl rfl rfl ?_
                refine l_l rfl rfl rfl ?_
                refine l_l rfl rfl rfl ?_
                refine l_nil ?_
                refine c_ret ?_
                exact l_end0 (fun _ _ => rets_v2 rfl rfl) (.inl ⟨by rw [hT.full hx (by unfold BadP; (try simp only [decide_eq_true_eq, decide_eq_false_iff_not, beq_iff_eq, beq_eq_false_iff_ne, bne_iff_ne, bne_eq_false_iff_eq, ne_eq] at *); omega) hno (by (try simp only [decide_eq_true_eq, decide_eq_false_iff_not, beq_iff_eq, beq_eq_false_iff_ne, bne_iff_ne, bne_eq_false_iff_eq, ne_eq] at *); omega)]; decide, by rw [hT.full hx (by unfold BadP; (try simp only [decide_eq_true_eq, decide_eq_false_iff_not, beq_iff_eq, beq_eq_false_iff_ne, bne_iff_ne, bne_eq_false_iff_eq, ne_eq] at *); omega) hno (by (try simp only [decide_eq_true_eq, decide_eq_false_iff_not, beq_iff_eq, beq_eq_false_iff_ne, bne_iff_ne, bne_eq_false_iff_eq, ne_eq] at *); omega)], rfl⟩)
              · refine c_skip ?_
                refine c_seq ?_
                rcases (show (W.length = 0 ∧ W = []) ∨ 0 < W.length by cases W <;> simp) with ⟨hW0, hWn⟩ | hW1
                · refine c_draw _ [0, 2] (.step true 1 (.step true 3 (.fork 0 (.fork 2 (.step false 4 (.step false 5 (.step true 6 (.step true 7 .done)))) (.fork 4 (.step false 2 (.step false 5 (.step true 6 (.step true 7 .done)))) .stop)) (.fork 4 (.step false 0 (.step false 2 (.step false 5 (.step true 6 (.step true 7 .done))))) .stop)))) rfl (by kernel_rfl) (by kernel_rfl) (fun _ h => h) ?_
                  refine d_light rfl rfl rfl rfl rfl ?_
                  refine d_loadA rfl rfl rfl rfl (by first | exact srow_own (by repeat (first | exact .head _ | refine .tail _ ?_ | refine List.mem_append_right _ ?_)) | exact srow_own_at (by repeat (first | exact .head _ | refine .tail _ ?_ | refine List.mem_append_right _ ?_)) _ 3 rfl) rfl rfl ?_
                  refine d_fork ?_ ?_
                  · refine d_x rfl (x_slc0 (el := 52) (n := 3) rfl) rfl rfl (by intro _ _ _ hK x hx; obtain ⟨_, rfl, rfl⟩ := hK; repeat (first | exact hx | exact List.mem_append_left _ hx | refine List.mem_append_right _ ?_ | refine .tail _ ?_)) ?_
                    rintro _ _ ⟨b57, rfl, rfl⟩
                    refine d_fork ?_ ?_
                    · refine d_x rfl (x_appendZ rfl rfl hW0 rfl rfl (Nat.le_refl 0)) rfl rfl (by intro _ _ _ hK x hx; obtain ⟨rfl, rfl⟩ := hK; repeat (first | exact hx | exact List.mem_append_left _ hx | refine List.mem_append_right _ ?_ | refine .tail _ ?_)) ?_
                      rintro _ _ ⟨rfl, rfl⟩
                      refine d_x rfl (x_slc rfl rfl rfl rfl rfl rfl) rfl rfl (by intro h; cases h) ?_
                      rintro _ _ ⟨b61, rfl, rfl⟩
                      refine d_x rfl (x_append (A := [(b61, _)]) (G := [(b57, blk [] 52)]) (R := _) (v := (.slice (some ⟨b57, 0, none⟩) 0 0)) (n := 0) (xs := []) (m := 1) (T := 52) (s := 3) (by_ := 32) (ys := cN x) rfl rfl rfl rfl (.row b57 0 0 [] [] rfl rfl (by decide) (Nat.le_refl 0)) (fun w hw => .row _ _ _ _ _ rfl (row_own (by repeat (first | exact .head _ | refine .tail _ ?_ | refine List.mem_append_right _ ?_)) w hw)) rfl (by omega) (by omega)) rfl rfl (by intro h; cases h) ?_
                      rintro v62 _ ⟨G62, hV62, hn62, rfl⟩
                      obtain ⟨a62, c62, rfl⟩ := hV62.slice
                      have hV9 : Vec 52 3 (.slice a62 _ c62) (W ++ [x]).length (flat cN (W ++ [x])) G62 := hV62.as (by simp [hW0]) (by simp [flat, hWn])
                      refine d_light rfl rfl rfl rfl rfl ?_
                      refine d_light rfl rfl rfl rfl rfl ?_
                      refine d_nil ?_
                      refine c_ret ?_
                      exact l_end (fun _ _ => rets_v2 rfl rfl) (List.sublist_append_left _ _) (.inr ⟨hT.fits hx (by unfold BadP; (try simp only [decide_eq_true_eq, decide_eq_false_iff_not, beq_iff_eq, beq_eq_false_iff_ne, bne_iff_ne, bne_eq_false_iff_eq, ne_eq] at *); omega) hno (by (try simp only [decide_eq_true_eq, decide_eq_false_iff_not, beq_iff_eq, beq_eq_false_iff_ne, bne_iff_ne, bne_eq_false_iff_eq, ne_eq] at *); omega), _, rfl, hV9⟩)
                    refine d_fork ?_ ?_
                    · refine d_x rfl (x_slc rfl rfl rfl rfl rfl rfl) rfl rfl (by intro h; cases h) ?_
                      rintro _ _ ⟨b61, rfl, rfl⟩
                      refine d_x rfl (x_appendZ rfl rfl hW0 rfl rfl (Nat.le_refl 0)) rfl rfl (by intro _ _ _ hK x hx; obtain ⟨rfl, rfl⟩ := hK; repeat (first | exact hx | exact List.mem_append_left _ hx | refine List.mem_append_right _ ?_ | refine .tail _ ?_)) ?_
                      rintro _ _ ⟨rfl, rfl⟩
                      refine d_x rfl (x_append (A := [(b61, _)]) (G := [(b57, blk [] 52)]) (R := _) (v := (.slice (some ⟨b57, 0, none⟩) 0 0)) (n := 0) (xs := []) (m := 1) (T := 52) (s := 3) (by_ := 32) (ys := cN x) rfl rfl rfl rfl (.row b57 0 0 [] [] rfl rfl (by decide) (Nat.le_refl 0)) (fun w hw => .row _ _ _ _ _ rfl (row_own (by repeat (first | exact .head _ | refine .tail _ ?_ | refine List.mem_append_right _ ?_)) w hw)) rfl (by omega) (by omega)) rfl rfl (by intro h; cases h) ?_
                      rintro v62 _ ⟨G62, hV62, hn62, rfl⟩
                      obtain ⟨a62, c62, rfl⟩ := hV62.slice
                      have hV9 : Vec 52 3 (.slice a62 _ c62) (W ++ [x]).length (flat cN (W ++ [x])) G62 := hV62.as (by simp [hW0]) (by simp [flat, hWn])
                      refine d_light rfl rfl rfl rfl rfl ?_
                      refine d_light rfl rfl rfl rfl rfl ?_
                      refine d_nil ?_
                      refine c_ret ?_
                      exact l_end (fun _ _ => rets_v2 rfl rfl) (List.sublist_append_left _ _) (.inr ⟨hT.fits hx (by unfold BadP; (try simp only [decide_eq_true_eq, decide_eq_false_iff_not, beq_iff_eq, beq_eq_false_iff_ne, bne_iff_ne, bne_eq_false_iff_eq, ne_eq] at *); omega) hno (by (try simp only [decide_eq_true_eq, decide_eq_false_iff_not, beq_iff_eq, beq_eq_false_iff_ne, bne_iff_ne, bne_eq_false_iff_eq, ne_eq] at *); omega), _, rfl, hV9⟩)
                    exact d_stop
                  refine d_fork ?_ ?_
                  · refine d_x rfl (x_slc rfl rfl rfl rfl rfl rfl) rfl rfl (by intro h; cases h) ?_
                    rintro _ _ ⟨b61, rfl, rfl⟩
                    refine d_x rfl (x_slc0 (el := 52) (n := 3) rfl) rfl rfl (by intro _ _ _ hK x hx; obtain ⟨_, rfl, rfl⟩ := hK; repeat (first | exact hx | exact List.mem_append_left _ hx | refine List.mem_append_right _ ?_ | refine .tail _ ?_)) ?_
                    rintro _ _ ⟨b57, rfl, rfl⟩
                    refine d_x rfl (x_appendZ rfl rfl hW0 rfl rfl (Nat.le_refl 0)) rfl rfl (by intro _ _ _ hK x hx; obtain ⟨rfl, rfl⟩ := hK; repeat (first | exact hx | exact List.mem_append_left _ hx | refine List.mem_append_right _ ?_ | refine .tail _ ?_)) ?_
                    rintro _ _ ⟨rfl, rfl⟩
                    refine d_x rfl (x_append (A := []) (G := [(b57, blk [] 52)]) (R := _) (v := (.slice (some ⟨b57, 0, none⟩) 0 0)) (n := 0) (xs := []) (m := 1) (T := 52) (s := 3) (by_ := 32) (ys := cN x) rfl rfl rfl rfl (.row b57 0 0 [] [] rfl rfl (by decide) (Nat.le_refl 0)) (fun w hw => .row _ _ _ _ _ rfl (row_own (by repeat (first | exact .head _ | refine .tail _ ?_ | refine List.mem_append_right _ ?_)) w hw)) rfl (by omega) (by omega)) rfl rfl (by intro h; cases h) ?_
                    rintro v62 _ ⟨G62, hV62, hn62, rfl⟩
                    obtain ⟨a62, c62, rfl⟩ := hV62.slice
                    have hV9 : Vec 52 3 (.slice a62 _ c62) (W ++ [x]).length (flat cN (W ++ [x])) G62 := hV62.as (by simp [hW0]) (by simp [flat, hWn])
                    refine d_light rfl rfl rfl rfl rfl ?_
                    refine d_light rfl rfl rfl rfl rfl ?_
                    refine d_nil ?_
                    refine c_ret ?_
                    exact l_end (fun _ _ => rets_v2 rfl rfl) (List.sublist_append_left _ _) (.inr ⟨hT.fits hx (by unfold BadP; (try simp only [decide_eq_true_eq, decide_eq_false_iff_not, beq_iff_eq, beq_eq_false_iff_ne, bne_iff_ne, bne_eq_false_iff_eq, ne_eq] at *); omega) hno (by (try simp only [decide_eq_true_eq, decide_eq_false_iff_not, beq_iff_eq, beq_eq_false_iff_ne, bne_iff_ne, bne_eq_false_iff_eq, ne_eq] at *); omega), _, rfl, hV9⟩)
                  exact d_stop
                · refine c_draw _ [0, 2] (.step true 1 (.step true 3 (.fork 0 (.fork 2 (.step false 4 (.step false 5 (.step true 6 (.step true 7 .done)))) (.fork 4 (.step false 2 (.step false 5 (.step true 6 (.step true 7 .done)))) .stop)) (.fork 4 (.step false 0 (.step false 2 (.step false 5 (.step true 6 (.step true 7 .done))))) .stop)))) rfl (by kernel_rfl) (by kernel_rfl) (fun _ h => h) ?_
                  refine d_light rfl rfl rfl rfl rfl ?_
                  refine d_loadA rfl rfl rfl rfl (by first | exact srow_own (by repeat (first | exact .head _ | refine .tail _ ?_ | refine List.mem_append_right _ ?_)) | exact srow_own_at (by repeat (first | exact .head _ | refine .tail _ ?_ | refine List.mem_append_right _ ?_)) _ 3 rfl) rfl rfl ?_
                  refine d_fork ?_ ?_
                  · obtain ⟨bl, ol, rfl, hr⟩ := hE.row (i := 0) hW1
                    refine d_x rfl (x_slc0 (el := 52) (n := 3) rfl) rfl rfl (by intro _ _ _ hK x hx; obtain ⟨_, rfl, rfl⟩ := hK; repeat (first | exact hx | exact List.mem_append_left _ hx | refine List.mem_append_right _ ?_ | refine .tail _ ?_)) ?_
                    rintro _ _ ⟨b57, rfl, rfl⟩
                    refine d_fork ?_ ?_
                    · refine d_x rfl (x_append (A := []) (G := [(b57, blk [] 52)]) (R := _) (v := (.slice (some ⟨b57, 0, none⟩) 0 0)) (n := 0) (xs := []) (m := W.length) (T := 52) (s := 3) (by_ := 32) (ys := flat cN W) rfl rfl rfl rfl (.row b57 0 0 [] [] rfl rfl (by decide) (Nat.le_refl 0)) (fun w hw => .row _ _ _ _ _ (flat_len cN_len _) (row_old hr (by simp) w hw)) (ones_flat_of ones_N _) (by omega) (by omega)) rfl rfl (by intro _ _ _ hK x hx; obtain ⟨G59, hV59, hn59, rfl⟩ := hK; repeat (first | exact hx | exact List.mem_append_left _ hx | refine List.mem_append_right _ ?_ | refine .tail _ ?_)) ?_
                      rintro v59 _ ⟨G59, hV59, hn59, rfl⟩
                      obtain ⟨a59, c59, rfl⟩ := hV59.slice
                      refine d_x rfl (x_slc rfl rfl rfl rfl rfl rfl) rfl rfl (by intro h; cases h) ?_
                      rintro _ _ ⟨b61, rfl, rfl⟩
                      refine d_x rfl (x_append (A := [(b61, _)]) (G := G59) (R := _) (v := (.slice a59 (0 + W.length) c59)) (n := (0 + W.length)) (xs := ([] ++ flat cN W)) (m := 1) (T := 52) (s := 3) (by_ := 32) (ys := cN x) rfl rfl rfl rfl hV59 (fun w hw => .row _ _ _ _ _ rfl (row_own (by repeat (first | exact .head _ | refine .tail _ ?_ | refine List.mem_append_right _ ?_)) w hw)) rfl (by omega) (by omega)) rfl rfl (by intro h; cases h) ?_
                      rintro v62 _ ⟨G62, hV62, hn62, rfl⟩
                      obtain ⟨a62, c62, rfl⟩ := hV62.slice
                      have hV9 : Vec 52 3 (.slice a62 _ c62) (W ++ [x]).length (flat cN (W ++ [x])) G62 := hV62.as (by simp) (by simp [flat])
                      refine d_light rfl rfl rfl rfl rfl ?_
                      refine d_light rfl rfl rfl rfl rfl ?_
                      refine d_nil ?_
                      refine c_ret ?_
                      exact l_end (fun _ _ => rets_v2 rfl rfl) (List.sublist_append_left _ _) (.inr ⟨hT.fits hx (by unfold BadP; (try simp only [decide_eq_true_eq, decide_eq_false_iff_not, beq_iff_eq, beq_eq_false_iff_ne, bne_iff_ne, bne_eq_false_iff_eq, ne_eq] at *); omega) hno (by (try simp only [decide_eq_true_eq, decide_eq_false_iff_not, beq_iff_eq, beq_eq_false_iff_ne, bne_iff_ne, bne_eq_false_iff_eq, ne_eq] at *); omega), _, rfl, hV9⟩)
                    refine d_fork ?_ ?_
                    · refine d_x rfl (x_slc rfl rfl rfl rfl rfl rfl) rfl rfl (by intro h; cases h) ?_
                      rintro _ _ ⟨b61, rfl, rfl⟩
                      refine d_x rfl (x_append (A := [(b61, _)]) (G := [(b57, blk [] 52)]) (R := _) (v := (.slice (some ⟨b57, 0, none⟩) 0 0)) (n := 0) (xs := []) (m := W.length) (T := 52) (s := 3) (by_ := 32) (ys := flat cN W) rfl rfl rfl rfl (.row b57 0 0 [] [] rfl rfl (by decide) (Nat.le_refl 0)) (fun w hw => .row _ _ _ _ _ (flat_len cN_len _) (row_old hr (by simp) w hw)) (ones_flat_of ones_N _) (by omega) (by omega)) rfl rfl (by intro _ _ _ hK x hx; obtain ⟨G59, hV59, hn59, rfl⟩ := hK; repeat (first | exact hx | exact List.mem_append_left _ hx | refine List.mem_append_right _ ?_ | refine .tail _ ?_)) ?_
                      rintro v59 _ ⟨G59, hV59, hn59, rfl⟩
                      obtain ⟨a59, c59, rfl⟩ := hV59.slice
                      refine d_x rfl (x_append (A := []) (G := G59) (R := _) (v := (.slice a59 (0 + W.length) c59)) (n := (0 + W.length)) (xs := ([] ++ flat cN W)) (m := 1) (T := 52) (s := 3) (by_ := 32) (ys := cN x) rfl rfl rfl rfl hV59 (fun w hw => .row _ _ _ _ _ rfl (row_own (by repeat (first | exact .head _ | refine .tail _ ?_ | refine List.mem_append_right _ ?_)) w hw)) rfl (by omega) (by omega)) rfl rfl (by intro h; cases h) ?_
                      rintro v62 _ ⟨G62, hV62, hn62, rfl⟩
                      obtain ⟨a62, c62, rfl⟩ := hV62.slice
                      have hV9 : Vec 52 3 (.slice a62 _ c62) (W ++ [x]).length (flat cN (W ++ [x])) G62 := hV62.as (by simp) (by simp [flat])
                      refine d_light rfl rfl rfl rfl rfl ?_
                      refine d_light rfl rfl rfl rfl rfl ?_
                      refine d_nil ?_
                      refine c_ret ?_
                      exact l_end (fun _ _ => rets_v2 rfl rfl) (List.sublist_append_left _ _) (.inr ⟨hT.fits hx (by unfold BadP; (try simp only [decide_eq_true_eq, decide_eq_false_iff_not, beq_iff_eq, beq_eq_false_iff_ne, bne_iff_ne, bne_eq_false_iff_eq, ne_eq] at *); omega) hno (by (try simp only [decide_eq_true_eq, decide_eq_false_iff_not, beq_iff_eq, beq_eq_false_iff_ne, bne_iff_ne, bne_eq_false_iff_eq, ne_eq] at *); omega), _, rfl, hV9⟩)
                    exact d_stop
                  refine d_fork ?_ ?_
                  · refine d_x rfl (x_slc rfl rfl rfl rfl rfl rfl) rfl rfl (by intro h; cases h) ?_
                    rintro _ _ ⟨b61, rfl, rfl⟩
                    obtain ⟨bl, ol, rfl, hr⟩ := hE.row (i := 0) hW1
                    refine d_x rfl (x_slc0 (el := 52) (n := 3) rfl) rfl rfl (by intro _ _ _ hK x hx; obtain ⟨_, rfl, rfl⟩ := hK; repeat (first | exact hx | exact List.mem_append_left _ hx | refine List.mem_append_right _ ?_ | refine .tail _ ?_)) ?_
                    rintro _ _ ⟨b57, rfl, rfl⟩
                    refine d_x rfl (x_append (A := []) (G := [(b57, blk [] 52)]) (R := _) (v := (.slice (some ⟨b57, 0, none⟩) 0 0)) (n := 0) (xs := []) (m := W.length) (T := 52) (s := 3) (by_ := 32) (ys := flat cN W) rfl rfl rfl rfl (.row b57 0 0 [] [] rfl rfl (by decide) (Nat.le_refl 0)) (fun w hw => .row _ _ _ _ _ (flat_len cN_len _) (row_old hr (by simp) w hw)) (ones_flat_of ones_N _) (by omega) (by omega)) rfl rfl (by intro _ _ _ hK x hx; obtain ⟨G59, hV59, hn59, rfl⟩ := hK; repeat (first | exact hx | exact List.mem_append_left _ hx | refine List.mem_append_right _ ?_ | refine .tail _ ?_)) ?_
                    rintro v59 _ ⟨G59, hV59, hn59, rfl⟩
                    obtain ⟨a59, c59, rfl⟩ := hV59.slice
                    refine d_x rfl (x_append (A := []) (G := G59) (R := _) (v := (.slice a59 (0 + W.length) c59)) (n := (0 + W.length)) (xs := ([] ++ flat cN W)) (m := 1) (T := 52) (s := 3) (by_ := 32) (ys := cN x) rfl rfl rfl rfl hV59 (fun w hw => .row _ _ _ _ _ rfl (row_own (by repeat (first | exact .head _ | refine .tail _ ?_ | refine List.mem_append_right _ ?_)) w hw)) rfl (by omega) (by omega)) rfl rfl (by intro h; cases h) ?_
                    rintro v62 _ ⟨G62, hV62, hn62, rfl⟩
                    obtain ⟨a62, c62, rfl⟩ := hV62.slice
                    have hV9 : Vec 52 3 (.slice a62 _ c62) (W ++ [x]).length (flat cN (W ++ [x])) G62 := hV62.as (by simp) (by simp [flat])
                    refine d_light rfl rfl rfl rfl rfl ?_
                    refine d_light rfl rfl rfl rfl rfl ?_
                    refine d_nil ?_
                    refine c_ret ?_
                    exact l_end (fun _ _ => rets_v2 rfl rfl) (List.sublist_append_left _ _) (.inr ⟨hT.fits hx (by unfold BadP; (try simp only [decide_eq_true_eq, decide_eq_false_iff_not, beq_iff_eq, beq_eq_false_iff_ne, bne_iff_ne, bne_eq_false_iff_eq, ne_eq] at *); omega) hno (by (try simp only [decide_eq_true_eq, decide_eq_false_iff_not, beq_iff_eq, beq_eq_false_iff_ne, bne_iff_ne, bne_eq_false_iff_eq, ne_eq] at *); omega), _, rfl, hV9⟩)
                  exact d_stop

theorem rfind_fn (a : Option Addr) (c : Nat) (W : List Nm) (hwl : W.length ≤ 64) (bank at_ : Int) (w : World) (hE : Els w cN a W) :
    Does Try.prog 20 [.slice a W.length c, .int .i64 bank, .int .u16 at_] w [] (fun v H => H = [] ∧ ∃ o, v = .int .i64 o ∧ IdxOk W bank at_ W.length o) := by
  refine does_of Try.func20 rfl rfl rfl (St.refl w) ?_
  refine c_seq ?_
  refine c_region ?_
  refine l_l rfl rfl rfl ?_
  refine l_nil ?_
  refine c_seq ?_
  refine c_region ?_
  refine l_l rfl rfl rfl ?_
  refine l_nil ?_
  refine c_seq ?_
  refine c_seq ?_
  refine c_region ?_
  refine l_l rfl rfl rfl ?_
  refine l_l (by first | exact light_len rfl rfl | exact light_lens rfl rfl | rfl) rfl rfl ?_
  refine l_l rfl rfl rfl ?_
  refine l_nil ?_
  refine c_block ?_
  refine c_loopk (σ := Nat × Int) [7, 8, 11, 12, 13, 14, 15, 16, 17, 18, 19, 20, 21, 22, 23, 24, 25, 26, 27, 28, 29, 30, 31, 32, 33, 34, 35, 36, 37, 38, 39, 40, 41, 42, 43, 44, 45, 46, 47, 48] (fun s => [(7, .int .i64 s.2), (11, .int .i64 s.1)]) (fun s => s.1 ≤ W.length ∧ IdxOk W bank at_ s.1 s.2) (fun s => W.length - s.1) (0, -1) ?_ ?_ ?_
  · exact ⟨Nat.zero_le _, .start _ _ _⟩
  · exact .cons rfl (.cons rfl .nil)
  · rintro ⟨k, o⟩ y2 ⟨hk, ho⟩
    dsimp only at hk ho ⊢
    refine c_seq ?_
    refine c_region ?_
    refine l_l rfl rfl rfl ?_
    refine l_nil ?_
    refine c_seq ?_
    refine c_cond rfl (fun h1 => ?_) (fun h1 => ?_)
    · refine c_skip ?_
      refine c_seq ?_
      refine c_block ?_
      refine c_seq ?_
      refine c_region ?_
      refine l_l rfl rfl rfl ?_
      refine l_l rfl rfl rfl ?_
      refine l_nil ?_
      refine c_seq ?_
      obtain ⟨bl, ol, rfl, hr⟩ := hE.row (i := k) (by (try simp only [decide_eq_true_eq, decide_eq_false_iff_not, beq_iff_eq, beq_eq_false_iff_ne, bne_iff_ne, bne_eq_false_iff_eq, ne_eq] at *); omega)
      obtain ⟨y, hy⟩ : ∃ y, W[k]? = some y := ⟨_, get_some (by (try simp only [decide_eq_true_eq, decide_eq_false_iff_not, beq_iff_eq, beq_eq_false_iff_ne, bne_iff_ne, bne_eq_false_iff_eq, ne_eq] at *); omega)⟩
      have ho9 := ho
      rcases ho with ⟨rfl, hno⟩ | ⟨j, z, rfl, hj, hz, hcz, hmax⟩
      · refine c_draw _ [5, 13, 25, 26, 27, 28, 29] (.step true 0 (.step true 1 (.step true 2 (.step true 3 (.step true 4 (.step true 5 (.step true 6 (.step true 7 (.step true 8 (.step true 9 (.step true 10 (.step true 11 (.step true 12 (.step true 13 (.step true 14 (.step true 15 (.step true 16 (.step true 17 (.step true 18 (.step true 19 (.step true 20 (.step true 21 (.step true 22 (.step true 23 (.step true 24 (.step true 25 (.step true 26 (.step true 27 (.step true 28 (.step true 29 (.step true 30 (.step true 31 (.step true 32 .done))))))))))))))))))))))))))))))))) rfl (by kernel_rfl) (by kernel_rfl) (fun _ h => h) ?_
        refine d_light rfl rfl rfl rfl rfl ?_
        refine d_light rfl rfl rfl rfl rfl ?_
        refine d_light rfl (idx_slice (s := 3) k rfl rfl rfl rfl (by (try simp only [decide_eq_true_eq, decide_eq_false_iff_not, beq_iff_eq, beq_eq_false_iff_ne, bne_iff_ne, bne_eq_false_iff_eq, ne_eq] at *); omega)) rfl rfl rfl ?_
        refine d_light rfl (light_fa rfl rfl) rfl rfl rfl ?_
        refine d_load rfl rfl rfl (fun w hw => (srow_old hr (by simp) w hw).at cN_len hy 0 rfl) rfl rfl ?_
        refine d_light rfl rfl rfl rfl rfl ?_
        refine d_light rfl rfl rfl rfl rfl ?_
        refine d_bool rfl rfl rfl rfl (fun h2 => ?_) (fun h2 => ?_)
        · refine d_light rfl rfl rfl rfl rfl ?_
          refine d_light rfl rfl rfl rfl rfl ?_
          refine d_light rfl (idx_slice (s := 3) k rfl rfl rfl rfl (by (try simp only [decide_eq_true_eq, decide_eq_false_iff_not, beq_iff_eq, beq_eq_false_iff_ne, bne_iff_ne, bne_eq_false_iff_eq, ne_eq] at *); omega)) rfl rfl rfl ?_
          refine d_light rfl (light_fa rfl rfl) rfl rfl rfl ?_
          refine d_load rfl rfl rfl (fun w hw => (srow_old hr (by simp) w hw).at cN_len hy 1 rfl) rfl rfl ?_
          refine d_light rfl rfl rfl rfl rfl ?_
          refine d_light rfl rfl rfl rfl rfl ?_
          refine d_light rfl rfl rfl rfl rfl ?_
          refine d_bool rfl rfl rfl rfl (fun h3 => ?_) (fun h3 => ?_)
          · refine d_light rfl rfl rfl rfl rfl ?_
            refine d_sure true rfl rfl rfl rfl rfl ?_
            refine d_light rfl rfl rfl rfl rfl ?_
            refine d_pass rfl rfl rfl ?_
            refine d_pass rfl rfl rfl ?_
            refine d_pass rfl rfl rfl ?_
            refine d_pass rfl rfl rfl ?_
            refine d_pass rfl rfl rfl ?_
            refine d_pass rfl rfl rfl ?_
            refine d_pass rfl rfl rfl ?_
            refine d_pass rfl rfl rfl ?_
            refine d_pass rfl rfl rfl ?_
            refine d_pass rfl rfl rfl ?_
            refine d_pass rfl rfl rfl ?_
            refine d_light rfl rfl rfl rfl rfl ?_
            refine d_light rfl rfl rfl rfl rfl ?_
            refine d_nil ?_
            refine c_true rfl ?_
            refine c_region ?_
            refine l_l rfl rfl rfl ?_
            refine l_l rfl rfl rfl ?_
            refine l_nil ?_
            refine c_region ?_
            refine l_as (v := (.int .i64 ((k + 1 : Nat) : Int))) rfl rfl rfl (congrArg _ (succ_law (by omega))) ?_
            refine l_l rfl rfl rfl ?_
            refine l_nil ?_
            exact ⟨(k + 1, (k : Int)), ⟨by (try simp only [decide_eq_true_eq, decide_eq_false_iff_not, beq_iff_eq, beq_eq_false_iff_ne, bne_iff_ne, bne_eq_false_iff_eq, ne_eq] at *); omega, ho9.first hy ⟨by (try simp only [decide_eq_true_eq, decide_eq_false_iff_not, beq_iff_eq, beq_eq_false_iff_ne, bne_iff_ne, bne_eq_false_iff_eq, ne_eq] at *); omega, by (try simp only [decide_eq_true_eq, decide_eq_false_iff_not, beq_iff_eq, beq_eq_false_iff_ne, bne_iff_ne, bne_eq_false_iff_eq, ne_eq] at *); omega⟩⟩, by (try simp only [decide_eq_true_eq, decide_eq_false_iff_not, beq_iff_eq, beq_eq_false_iff_ne, bne_iff_ne, bne_eq_false_iff_eq, ne_eq] at *); omega, .cons rfl (.cons rfl .nil), (by repeat (first | exact Agree.refl _ _ | exact Agree.mix rfl | refine Agree.put rfl ?_ | refine Agree.keep rfl ?_)), fun _ h => h⟩
          · refine d_pass rfl rfl rfl ?_
            refine d_pass rfl rfl rfl ?_
            refine d_pass rfl rfl rfl ?_
            refine d_pass rfl rfl rfl ?_
            refine d_pass rfl rfl rfl ?_
            refine d_pass rfl rfl rfl ?_
            refine d_pass rfl rfl rfl ?_
            refine d_pass rfl rfl rfl ?_
            refine d_pass rfl rfl rfl ?_
            refine d_pass rfl rfl rfl ?_
            refine d_pass rfl rfl rfl ?_
            refine d_pass rfl rfl rfl ?_
            refine d_pass rfl rfl rfl ?_
            refine d_pass rfl rfl rfl ?_
            refine d_pass rfl rfl rfl ?_
            refine d_light rfl rfl rfl rfl rfl ?_
            refine d_nil ?_
            refine c_false rfl ?_
            refine c_skip ?_
            refine c_region ?_
            refine l_as (v := (.int .i64 ((k + 1 : Nat) : Int))) rfl rfl rfl (congrArg _ (succ_law (by omega))) ?_
            refine l_l rfl rfl rfl ?_
            refine l_nil ?_
            exact ⟨(k + 1, _), ⟨by (try simp only [decide_eq_true_eq, decide_eq_false_iff_not, beq_iff_eq, beq_eq_false_iff_ne, bne_iff_ne, bne_eq_false_iff_eq, ne_eq] at *); omega, ho9.pass hy (fun hc => by unfold Cand at hc; (try simp only [decide_eq_true_eq, decide_eq_false_iff_not, beq_iff_eq, beq_eq_false_iff_ne, bne_iff_ne, bne_eq_false_iff_eq, ne_eq] at *); omega)⟩, by (try simp only [decide_eq_true_eq, decide_eq_false_iff_not, beq_iff_eq, beq_eq_false_iff_ne, bne_iff_ne, bne_eq_false_iff_eq, ne_eq] at *); omega, .cons rfl (.cons rfl .nil), (by repeat (first | exact Agree.refl _ _ | exact Agree.mix rfl | refine Agree.put rfl ?_ | refine Agree.keep rfl ?_)), fun _ h => h⟩
        · refine d_pass rfl rfl rfl ?_
          refine d_pass rfl rfl rfl ?_
          refine d_pass rfl rfl rfl ?_
          refine d_pass rfl rfl rfl ?_
          refine d_pass rfl rfl rfl ?_
          refine d_pass rfl rfl rfl ?_
          refine d_pass rfl rfl rfl ?_
          refine d_light rfl rfl rfl rfl rfl ?_
          refine d_light rfl rfl rfl rfl rfl ?_
          refine d_pass rfl rfl rfl ?_
          refine d_pass rfl rfl rfl ?_
          refine d_pass rfl rfl rfl ?_
          refine d_pass rfl rfl rfl ?_
          refine d_pass rfl rfl rfl ?_
          refine d_pass rfl rfl rfl ?_
          refine d_pass rfl rfl rfl ?_
          refine d_pass rfl rfl rfl ?_
          refine d_pass rfl rfl rfl ?_
          refine d_pass rfl rfl rfl ?_
          refine d_pass rfl rfl rfl ?_
          refine d_pass rfl rfl rfl ?_
          refine d_pass rfl rfl rfl ?_
          refine d_pass rfl rfl rfl ?_
          refine d_pass rfl rfl rfl ?_
          refine d_light rfl rfl rfl rfl rfl ?_
          refine d_nil ?_
          refine c_false rfl ?_
          refine c_skip ?_
          refine c_region ?_
          refine l_as (v := (.int .i64 ((k + 1 : Nat) : Int))) rfl rfl rfl (congrArg _ (succ_law (by omega))) ?_
          refine l_l rfl rfl rfl ?_
          refine l_nil ?_
          exact ⟨(k + 1, _), ⟨by (try simp only [decide_eq_true_eq, decide_eq_false_iff_not, beq_iff_eq, beq_eq_false_iff_ne, bne_iff_ne, bne_eq_false_iff_eq, ne_eq] at *); omega, ho9.pass hy (fun hc => by unfold Cand at hc; (try simp only [decide_eq_true_eq, decide_eq_false_iff_not, beq_iff_eq, beq_eq_false_iff_ne, bne_iff_ne, bne_eq_false_iff_eq, ne_eq] at *); omega)⟩, by (try simp only [decide_eq_true_eq, decide_eq_false_iff_not, beq_iff_eq, beq_eq_false_iff_ne, bne_iff_ne, bne_eq_false_iff_eq, ne_eq] at *); omega, .cons rfl (.cons rfl .nil), (by repeat (first | exact Agree.refl _ _ | exact Agree.mix rfl | refine Agree.put rfl ?_ | refine Agree.keep rfl ?_)), fun _ h => h⟩
      · refine c_draw _ [5, 13, 25, 26, 27, 28, 29] (.step true 0 (.step true 1 (.step true 2 (.step true 3 (.step true 4 (.step true 5 (.step true 6 (.step true 7 (.step true 8 (.step true 9 (.step true 10 (.step true 11 (.step true 12 (.step true 13 (.step true 14 (.step true 15 (.step true 16 (.step true 17 (.step true 18 (.step true 19 (.step true 20 (.step true 21 (.step true 22 (.step true 23 (.step true 24 (.step true 25 (.step true 26 (.step true 27 (.step true 28 (.step true 29 (.step true 30 (.step true 31 (.step true 32 .done))))))))))))))))))))))))))))))))) rfl (by kernel_rfl) (by kernel_rfl) (fun _ h => h) ?_
        refine d_light rfl rfl rfl rfl rfl ?_
        refine d_light rfl rfl rfl rfl rfl ?_
        refine d_light rfl (idx_slice (s := 3) k rfl rfl rfl rfl (by (try simp only [decide_eq_true_eq, decide_eq_false_iff_not, beq_iff_eq, beq_eq_false_iff_ne, bne_iff_ne, bne_eq_false_iff_eq, ne_eq] at *); omega)) rfl rfl rfl ?_
        refine d_light rfl (light_fa rfl rfl) rfl rfl rfl ?_
        refine d_load rfl rfl rfl (fun w hw => (srow_old hr (by simp) w hw).at cN_len hy 0 rfl) rfl rfl ?_
        refine d_light rfl rfl rfl rfl rfl ?_
        refine d_light rfl rfl rfl rfl rfl ?_
        refine d_bool rfl rfl rfl rfl (fun h4 => ?_) (fun h4 => ?_)
        · refine d_light rfl rfl rfl rfl rfl ?_
          refine d_light rfl rfl rfl rfl rfl ?_
          refine d_light rfl (idx_slice (s := 3) k rfl rfl rfl rfl (by (try simp only [decide_eq_true_eq, decide_eq_false_iff_not, beq_iff_eq, beq_eq_false_iff_ne, bne_iff_ne, bne_eq_false_iff_eq, ne_eq] at *); omega)) rfl rfl rfl ?_
          refine d_light rfl (light_fa rfl rfl) rfl rfl rfl ?_
          refine d_load rfl rfl rfl (fun w hw => (srow_old hr (by simp) w hw).at cN_len hy 1 rfl) rfl rfl ?_
          refine d_light rfl rfl rfl rfl rfl ?_
          refine d_light rfl rfl rfl rfl rfl ?_
          refine d_light rfl rfl rfl rfl rfl ?_
          refine d_bool rfl rfl rfl rfl (fun h5 => ?_) (fun h5 => ?_)
          · refine d_light rfl rfl rfl rfl rfl ?_
            refine d_sure false rfl rfl rfl rfl (by simp) ?_
            refine d_light rfl rfl rfl rfl rfl ?_
            refine d_light rfl rfl rfl rfl rfl ?_
            refine d_light rfl rfl rfl rfl rfl ?_
            refine d_light rfl (idx_slice (s := 3) k rfl rfl rfl rfl (by (try simp only [decide_eq_true_eq, decide_eq_false_iff_not, beq_iff_eq, beq_eq_false_iff_ne, bne_iff_ne, bne_eq_false_iff_eq, ne_eq] at *); omega)) rfl rfl rfl ?_
            refine d_light rfl (light_fa rfl rfl) rfl rfl rfl ?_
            refine d_load rfl rfl rfl (fun w hw => (srow_old hr (by simp) w hw).at cN_len hy 1 rfl) rfl rfl ?_
            refine d_light rfl rfl rfl rfl rfl ?_
            refine d_light rfl rfl rfl rfl rfl ?_
            refine d_light rfl (idx_slice (s := 3) j rfl rfl rfl rfl (by (try simp only [decide_eq_true_eq, decide_eq_false_iff_not, beq_iff_eq, beq_eq_false_iff_ne, bne_iff_ne, bne_eq_false_iff_eq, ne_eq] at *); omega)) rfl rfl rfl ?_
            refine d_light rfl (light_fa rfl rfl) rfl rfl rfl ?_
            refine d_load rfl rfl rfl (fun w hw => (srow_old hr (by simp) w hw).at cN_len hz 1 rfl) rfl rfl ?_
            refine d_light rfl rfl rfl rfl rfl ?_
            refine d_light rfl rfl rfl rfl rfl ?_
            refine d_light rfl rfl rfl rfl rfl ?_
            refine d_nil ?_
            refine c_cond rfl (fun h6 => ?_) (fun h6 => ?_)
            · refine c_region ?_
              refine l_l rfl rfl rfl ?_
              refine l_l rfl rfl rfl ?_
              refine l_nil ?_
              refine c_region ?_
              refine l_as (v := (.int .i64 ((k + 1 : Nat) : Int))) rfl rfl rfl (congrArg _ (succ_law (by omega))) ?_
              refine l_l rfl rfl rfl ?_
              refine l_nil ?_
              exact ⟨(k + 1, (k : Int)), ⟨by (try simp only [decide_eq_true_eq, decide_eq_false_iff_not, beq_iff_eq, beq_eq_false_iff_ne, bne_iff_ne, bne_eq_false_iff_eq, ne_eq] at *); omega, IdxOk.more hz hmax hy ⟨by (try simp only [decide_eq_true_eq, decide_eq_false_iff_not, beq_iff_eq, beq_eq_false_iff_ne, bne_iff_ne, bne_eq_false_iff_eq, ne_eq] at *); omega, by (try simp only [decide_eq_true_eq, decide_eq_false_iff_not, beq_iff_eq, beq_eq_false_iff_ne, bne_iff_ne, bne_eq_false_iff_eq, ne_eq] at *); omega⟩ (by (try simp only [decide_eq_true_eq, decide_eq_false_iff_not, beq_iff_eq, beq_eq_false_iff_ne, bne_iff_ne, bne_eq_false_iff_eq, ne_eq] at *); omega)⟩, by (try simp only [decide_eq_true_eq, decide_eq_false_iff_not, beq_iff_eq, beq_eq_false_iff_ne, bne_iff_ne, bne_eq_false_iff_eq, ne_eq] at *); omega, .cons rfl (.cons rfl .nil), (by repeat (first | exact Agree.refl _ _ | exact Agree.mix rfl | refine Agree.put rfl ?_ | refine Agree.keep rfl ?_)), fun _ h => h⟩
            · refine c_skip ?_
              refine c_region ?_
              refine l_as (v := (.int .i64 ((k + 1 : Nat) : Int))) rfl rfl rfl (congrArg _ (succ_law (by omega))) ?_
              refine l_l rfl rfl rfl ?_
              refine l_nil ?_
              exact ⟨(k + 1, (j : Int)), ⟨by (try simp only [decide_eq_true_eq, decide_eq_false_iff_not, beq_iff_eq, beq_eq_false_iff_ne, bne_iff_ne, bne_eq_false_iff_eq, ne_eq] at *); omega, IdxOk.less hj hz hcz hmax hy (by (try simp only [decide_eq_true_eq, decide_eq_false_iff_not, beq_iff_eq, beq_eq_false_iff_ne, bne_iff_ne, bne_eq_false_iff_eq, ne_eq] at *); omega)⟩, by (try simp only [decide_eq_true_eq, decide_eq_false_iff_not, beq_iff_eq, beq_eq_false_iff_ne, bne_iff_ne, bne_eq_false_iff_eq, ne_eq] at *); omega, .cons rfl (.cons rfl .nil), (by repeat (first | exact Agree.refl _ _ | exact Agree.mix rfl | refine Agree.put rfl ?_ | refine Agree.keep rfl ?_)), fun _ h => h⟩
          · refine d_pass rfl rfl rfl ?_
            refine d_pass rfl rfl rfl ?_
            refine d_pass rfl rfl rfl ?_
            refine d_pass rfl rfl rfl ?_
            refine d_pass rfl rfl rfl ?_
            refine d_pass rfl rfl rfl ?_
            refine d_pass rfl rfl rfl ?_
            refine d_pass rfl rfl rfl ?_
            refine d_pass rfl rfl rfl ?_
            refine d_pass rfl rfl rfl ?_
            refine d_pass rfl rfl rfl ?_
            refine d_pass rfl rfl rfl ?_
            refine d_pass rfl rfl rfl ?_
            refine d_pass rfl rfl rfl ?_
            refine d_pass rfl rfl rfl ?_
            refine d_light rfl rfl rfl rfl rfl ?_
            refine d_nil ?_
            refine c_false rfl ?_
            refine c_skip ?_
            refine c_region ?_
            refine l_as (v := (.int .i64 ((k + 1 : Nat) : Int))) rfl rfl rfl (congrArg _ (succ_law (by omega))) ?_
            refine l_l rfl rfl rfl ?_
            refine l_nil ?_
            exact ⟨(k + 1, _), ⟨by (try simp only [decide_eq_true_eq, decide_eq_false_iff_not, beq_iff_eq, beq_eq_false_iff_ne, bne_iff_ne, bne_eq_false_iff_eq, ne_eq] at *); omega, ho9.pass hy (fun hc => by unfold Cand at hc; (try simp only [decide_eq_true_eq, decide_eq_false_iff_not, beq_iff_eq, beq_eq_false_iff_ne, bne_iff_ne, bne_eq_false_iff_eq, ne_eq] at *); omega)⟩, by (try simp only [decide_eq_true_eq, decide_eq_false_iff_not, beq_iff_eq, beq_eq_false_iff_ne, bne_iff_ne, bne_eq_false_iff_eq, ne_eq] at *); omega, .cons rfl (.cons rfl .nil), (by repeat (first | exact Agree.refl _ _ | exact Agree.mix rfl | refine Agree.put rfl ?_ | refine Agree.keep rfl ?_)), fun _ h => h⟩
        · refine d_pass rfl rfl rfl ?_
          refine d_pass rfl rfl rfl ?_
          refine d_pass rfl rfl rfl ?_
          refine d_pass rfl rfl rfl ?_
          refine d_pass rfl rfl rfl ?_
          refine d_pass rfl rfl rfl ?_
          refine d_pass rfl rfl rfl ?_
          refine d_light rfl rfl rfl rfl rfl ?_
          refine d_light rfl rfl rfl rfl rfl ?_
          refine d_pass rfl rfl rfl ?_
          refine d_pass rfl rfl rfl ?_
          refine d_pass rfl rfl rfl ?_
          refine d_pass rfl rfl rfl ?_
          refine d_pass rfl rfl rfl ?_
          refine d_pass rfl rfl rfl ?_
          refine d_pass rfl rfl rfl ?_
          refine d_pass rfl rfl rfl ?_
          refine d_pass rfl rfl rfl ?_
          refine d_pass rfl rfl rfl ?_
          refine d_pass rfl rfl rfl ?_
          refine d_pass rfl rfl rfl ?_
          refine d_pass rfl rfl rfl ?_
          refine d_pass rfl rfl rfl ?_
          refine d_pass rfl rfl rfl ?_
          refine d_light rfl rfl rfl rfl rfl ?_
          refine d_nil ?_
          refine c_false rfl ?_
          refine c_skip ?_
          refine c_region ?_
          refine l_as (v := (.int .i64 ((k + 1 : Nat) : Int))) rfl rfl rfl (congrArg _ (succ_law (by omega))) ?_
          refine l_l rfl rfl rfl ?_
          refine l_nil ?_
          exact ⟨(k + 1, _), ⟨by (try simp only [decide_eq_true_eq, decide_eq_false_iff_not, beq_iff_eq, beq_eq_false_iff_ne, bne_iff_ne, bne_eq_false_iff_eq, ne_eq] at *); omega, ho9.pass hy (fun hc => by unfold Cand at hc; (try simp only [decide_eq_true_eq, decide_eq_false_iff_not, beq_iff_eq, beq_eq_false_iff_ne, bne_iff_ne, bne_eq_false_iff_eq, ne_eq] at *); omega)⟩, by (try simp only [decide_eq_true_eq, decide_eq_false_iff_not, beq_iff_eq, beq_eq_false_iff_ne, bne_iff_ne, bne_eq_false_iff_eq, ne_eq] at *); omega, .cons rfl (.cons rfl .nil), (by repeat (first | exact Agree.refl _ _ | exact Agree.mix rfl | refine Agree.put rfl ?_ | refine Agree.keep rfl ?_)), fun _ h => h⟩
    · refine c_exit rfl ?_
      refine c_seq ?_
      obtain rfl : W.length = k := by (try simp only [decide_eq_true_eq, decide_eq_false_iff_not, beq_iff_eq, beq_eq_false_iff_ne, bne_iff_ne, bne_eq_false_iff_eq, ne_eq] at *); omega
      refine c_region ?_
      refine l_l rfl rfl rfl ?_
      refine l_l rfl rfl rfl ?_
      refine l_nil ?_
      refine c_ret ?_
      exact l_end0 (fun _ _ => rets_v rfl) ⟨rfl, o, rfl, ho⟩

end Go.Proofs.Ytmafgccagaihbaa
