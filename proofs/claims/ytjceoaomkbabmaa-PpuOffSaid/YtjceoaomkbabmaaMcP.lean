/- The contracts of the document's unit: what is seen. -/
import Derived.Test.YtjceoaomkbabmaaMcF
import Derived.Test.YtjceoaomkbabmaaMcO
namespace Go.Proofs.Ytjceoaomkbabmaa
open Go Go.VV Go.Proofs
set_option linter.unusedSimpArgs false
set_option linter.unusedVariables false
set_option maxRecDepth 100000
theorem shut_fn (b bv bs : Nat) (u : PU) (hu : u.Wf) (w : World) (hr : RRow w b bv bs u) (a : Int) (ha : 0 ≤ a ∧ a < 65536) : Does Try.prog 53 [.pointer (some ⟨b, 0, none⟩), .int .u16 a] w [] (fun v H => H = [] ∧ v = .bool (shutU u a)) := by
  refine does_of Try.func53 rfl rfl rfl (St.refl w) ?_
  refine c_seq ?_
  refine c_region ?_
  refine l_l rfl rfl rfl ?_
  refine l_nil ?_
  refine c_seq ?_
  refine c_region ?_
  refine l_l rfl rfl rfl ?_
  refine l_as (l_conv rfl rfl rfl) rfl rfl (by first | exact as_i64 (by omega) (by omega) | rfl) ?_
  refine l_l rfl rfl rfl ?_
  refine l_x (x_val call_37 rfl (fun w hw => rmode_fn b bv bs u hu w (hr.later hw))) rfl rfl ?_
  rintro _ _ ⟨rfl, rfl⟩
  refine l_l rfl rfl rfl ?_
  refine l_l rfl rfl rfl ?_
  refine l_nil ?_
  refine c_seq ?_
  refine c_region ?_
  refine l_l rfl rfl rfl ?_
  refine l_l rfl rfl rfl ?_
  refine l_b rfl rfl rfl (fun h1 => ?_) (fun h1 => ?_)
  · have h1n := by first | exact of_decide_eq_true h1 | exact of_decide_eq_false h1 | exact eq_of_beq h1 | exact ne_of_beq_false h1 | exact bne_t h1 | exact bne_f h1 | exact h1
    refine l_l rfl rfl rfl ?_
    refine l_l rfl rfl rfl ?_
    refine l_l rfl rfl rfl ?_
    refine l_b rfl rfl rfl (fun h2 => ?_) (fun h2 => ?_)
    · have h2n := by first | exact of_decide_eq_true h2 | exact of_decide_eq_false h2 | exact eq_of_beq h2 | exact ne_of_beq_false h2 | exact bne_t h2 | exact bne_f h2 | exact h2
      refine l_l rfl rfl rfl ?_
      refine l_l rfl rfl rfl ?_
      refine l_l rfl rfl rfl ?_
      refine l_b rfl rfl rfl (fun h3 => ?_) (fun h3 => ?_)
      · have h3n := by first | exact of_decide_eq_true h3 | exact of_decide_eq_false h3 | exact eq_of_beq h3 | exact ne_of_beq_false h3 | exact bne_t h3 | exact bne_f h3 | exact h3
        refine l_p rfl rfl ?_
        refine l_p rfl rfl ?_
        refine l_p rfl rfl ?_
        refine l_p rfl rfl ?_
        refine l_p rfl rfl ?_
        refine l_p rfl rfl ?_
        refine l_p rfl rfl ?_
        refine l_p rfl rfl ?_
        refine l_p rfl rfl ?_
        refine l_p rfl rfl ?_
        refine l_l rfl rfl rfl ?_
        refine l_l rfl rfl rfl ?_
        refine l_nil ?_
        refine c_ret ?_
        exact l_end0 (fun _ _ => rets_v rfl) ⟨rfl, congrArg _ (decide_eq_true (by omega)).symm⟩
      · have h3n := by first | exact of_decide_eq_true h3 | exact of_decide_eq_false h3 | exact eq_of_beq h3 | exact ne_of_beq_false h3 | exact bne_t h3 | exact bne_f h3 | exact h3
        refine l_l rfl rfl rfl ?_
        refine l_l rfl rfl rfl ?_
        refine l_b rfl rfl rfl (fun h4 => ?_) (fun h4 => ?_)
        · have h4n := by first | exact of_decide_eq_true h4 | exact of_decide_eq_false h4 | exact eq_of_beq h4 | exact ne_of_beq_false h4 | exact bne_t h4 | exact bne_f h4 | exact h4
          refine l_l rfl rfl rfl ?_
          refine l_l rfl rfl rfl ?_
          refine l_l rfl rfl rfl ?_
          refine l_b rfl rfl rfl (fun h5 => ?_) (fun h5 => ?_)
          · have h5n := by first | exact of_decide_eq_true h5 | exact of_decide_eq_false h5 | exact eq_of_beq h5 | exact ne_of_beq_false h5 | exact bne_t h5 | exact bne_f h5 | exact h5
            refine l_l rfl rfl rfl ?_
            refine l_l rfl rfl rfl ?_
            refine l_l rfl rfl rfl ?_
            refine l_l rfl rfl rfl ?_
            refine l_l rfl rfl rfl ?_
            refine l_nil ?_
            refine c_ret ?_
            exact l_end0 (fun _ _ => rets_v rfl) ⟨rfl, congrArg _ (decide_eq_decide.2 (by omega))⟩
          · have h5n := by first | exact of_decide_eq_true h5 | exact of_decide_eq_false h5 | exact eq_of_beq h5 | exact ne_of_beq_false h5 | exact bne_t h5 | exact bne_f h5 | exact h5
            refine l_p rfl rfl ?_
            refine l_p rfl rfl ?_
            refine l_l rfl rfl rfl ?_
            refine l_l rfl rfl rfl ?_
            refine l_l rfl rfl rfl ?_
            refine l_nil ?_
            refine c_ret ?_
            exact l_end0 (fun _ _ => rets_v rfl) ⟨rfl, congrArg _ (decide_eq_false (by omega)).symm⟩
        · have h4n := by first | exact of_decide_eq_true h4 | exact of_decide_eq_false h4 | exact eq_of_beq h4 | exact ne_of_beq_false h4 | exact bne_t h4 | exact bne_f h4 | exact h4
          refine l_p rfl rfl ?_
          refine l_p rfl rfl ?_
          refine l_l rfl rfl rfl ?_
          refine l_l rfl rfl rfl ?_
          refine l_p rfl rfl ?_
          refine l_p rfl rfl ?_
          refine l_l rfl rfl rfl ?_
          refine l_l rfl rfl rfl ?_
          refine l_l rfl rfl rfl ?_
          refine l_nil ?_
          refine c_ret ?_
          exact l_end0 (fun _ _ => rets_v rfl) ⟨rfl, congrArg _ (decide_eq_false (by omega)).symm⟩
    · have h2n := by first | exact of_decide_eq_true h2 | exact of_decide_eq_false h2 | exact eq_of_beq h2 | exact ne_of_beq_false h2 | exact bne_t h2 | exact bne_f h2 | exact h2
      refine l_p rfl rfl ?_
      refine l_p rfl rfl ?_
      refine l_l rfl rfl rfl ?_
      refine l_l rfl rfl rfl ?_
      refine l_l rfl rfl rfl ?_
      refine l_l rfl rfl rfl ?_
      refine l_b rfl rfl rfl (fun h6 => ?_) (fun h6 => ?_)
      · have h6n := by first | exact of_decide_eq_true h6 | exact of_decide_eq_false h6 | exact eq_of_beq h6 | exact ne_of_beq_false h6 | exact bne_t h6 | exact bne_f h6 | exact h6
        refine l_l rfl rfl rfl ?_
        refine l_l rfl rfl rfl ?_
        refine l_l rfl rfl rfl ?_
        refine l_b rfl rfl rfl (fun h7 => ?_) (fun h7 => ?_)
        · have h7n := by first | exact of_decide_eq_true h7 | exact of_decide_eq_false h7 | exact eq_of_beq h7 | exact ne_of_beq_false h7 | exact bne_t h7 | exact bne_f h7 | exact h7
          refine l_l rfl rfl rfl ?_
          refine l_l rfl rfl rfl ?_
          refine l_l rfl rfl rfl ?_
          refine l_l rfl rfl rfl ?_
          refine l_l rfl rfl rfl ?_
          refine l_nil ?_
          refine c_ret ?_
          exact l_end0 (fun _ _ => rets_v rfl) ⟨rfl, congrArg _ (decide_eq_decide.2 (by omega))⟩
        · have h7n := by first | exact of_decide_eq_true h7 | exact of_decide_eq_false h7 | exact eq_of_beq h7 | exact ne_of_beq_false h7 | exact bne_t h7 | exact bne_f h7 | exact h7
          refine l_p rfl rfl ?_
          refine l_p rfl rfl ?_
          refine l_l rfl rfl rfl ?_
          refine l_l rfl rfl rfl ?_
          refine l_l rfl rfl rfl ?_
          refine l_nil ?_
          refine c_ret ?_
          exact l_end0 (fun _ _ => rets_v rfl) ⟨rfl, congrArg _ (decide_eq_false (by omega)).symm⟩
      · have h6n := by first | exact of_decide_eq_true h6 | exact of_decide_eq_false h6 | exact eq_of_beq h6 | exact ne_of_beq_false h6 | exact bne_t h6 | exact bne_f h6 | exact h6
        refine l_p rfl rfl ?_
        refine l_p rfl rfl ?_
        refine l_l rfl rfl rfl ?_
        refine l_l rfl rfl rfl ?_
        refine l_p rfl rfl ?_
        refine l_p rfl rfl ?_
        refine l_l rfl rfl rfl ?_
        refine l_l rfl rfl rfl ?_
        refine l_l rfl rfl rfl ?_
        refine l_nil ?_
        refine c_ret ?_
        exact l_end0 (fun _ _ => rets_v rfl) ⟨rfl, congrArg _ (decide_eq_false (by omega)).symm⟩
  · have h1n := by first | exact of_decide_eq_true h1 | exact of_decide_eq_false h1 | exact eq_of_beq h1 | exact ne_of_beq_false h1 | exact bne_t h1 | exact bne_f h1 | exact h1
    refine l_p rfl rfl ?_
    refine l_p rfl rfl ?_
    refine l_l rfl rfl rfl ?_
    refine l_l rfl rfl rfl ?_
    refine l_p rfl rfl ?_
    refine l_p rfl rfl ?_
    refine l_l rfl rfl rfl ?_
    refine l_l rfl rfl rfl ?_
    refine l_l rfl rfl rfl ?_
    refine l_l rfl rfl rfl ?_
    refine l_b rfl rfl rfl (fun h8 => ?_) (fun h8 => ?_)
    · have h8n := by first | exact of_decide_eq_true h8 | exact of_decide_eq_false h8 | exact eq_of_beq h8 | exact ne_of_beq_false h8 | exact bne_t h8 | exact bne_f h8 | exact h8
      refine l_l rfl rfl rfl ?_
      refine l_l rfl rfl rfl ?_
      refine l_l rfl rfl rfl ?_
      refine l_b rfl rfl rfl (fun h9 => ?_) (fun h9 => ?_)
      · have h9n := by first | exact of_decide_eq_true h9 | exact of_decide_eq_false h9 | exact eq_of_beq h9 | exact ne_of_beq_false h9 | exact bne_t h9 | exact bne_f h9 | exact h9
        refine l_l rfl rfl rfl ?_
        refine l_l rfl rfl rfl ?_
        refine l_l rfl rfl rfl ?_
        refine l_l rfl rfl rfl ?_
        refine l_l rfl rfl rfl ?_
        refine l_nil ?_
        refine c_ret ?_
        exact l_end0 (fun _ _ => rets_v rfl) ⟨rfl, congrArg _ (decide_eq_decide.2 (by omega))⟩
      · have h9n := by first | exact of_decide_eq_true h9 | exact of_decide_eq_false h9 | exact eq_of_beq h9 | exact ne_of_beq_false h9 | exact bne_t h9 | exact bne_f h9 | exact h9
        refine l_p rfl rfl ?_
        refine l_p rfl rfl ?_
        refine l_l rfl rfl rfl ?_
        refine l_l rfl rfl rfl ?_
        refine l_l rfl rfl rfl ?_
        refine l_nil ?_
        refine c_ret ?_
        exact l_end0 (fun _ _ => rets_v rfl) ⟨rfl, congrArg _ (decide_eq_false (by omega)).symm⟩
    · have h8n := by first | exact of_decide_eq_true h8 | exact of_decide_eq_false h8 | exact eq_of_beq h8 | exact ne_of_beq_false h8 | exact bne_t h8 | exact bne_f h8 | exact h8
      refine l_p rfl rfl ?_
      refine l_p rfl rfl ?_
      refine l_l rfl rfl rfl ?_
      refine l_l rfl rfl rfl ?_
      refine l_p rfl rfl ?_
      refine l_p rfl rfl ?_
      refine l_l rfl rfl rfl ?_
      refine l_l rfl rfl rfl ?_
      refine l_l rfl rfl rfl ?_
      refine l_nil ?_
      refine c_ret ?_
      exact l_end0 (fun _ _ => rets_v rfl) ⟨rfl, congrArg _ (decide_eq_false (by omega)).symm⟩

theorem rpeek_fn (b bv bs : Nat) (u : PU) (hu : u.Wf) (w : World) (hr : RRow w b bv bs u) (a : Int) (ha : 0 ≤ a ∧ a < 65536) : Does Try.prog 40 [.pointer (some ⟨b, 0, none⟩), .int .u16 a] w [] (fun v H => H = [] ∧ v = .int .u8 (peekU u a)) := by
  have hmr := mode_range u
  have h1b : 0 ≤ u.R.getD 1 0 ∧ u.R.getD 1 0 < 256 := hu.look 1
  have h5 : 0 ≤ u.R.getD 5 0 ∧ u.R.getD 5 0 < 256 := hu.look 5
  have hs3 : 128 + u.R.getD 1 0 + modeU u + 4 < 256 := (stat_law hu).2.2
  have hlb := hu.line
  refine does_of Try.func40 rfl rfl rfl (St.refl w) ?_
  refine c_seq ?_
  refine c_region ?_
  refine l_l rfl rfl rfl ?_
  refine l_nil ?_
  refine c_seq ?_
  refine c_region ?_
  refine l_l rfl rfl rfl ?_
  refine l_as (l_conv rfl rfl rfl) rfl rfl (by first | exact as_i64 (by omega) (by omega) | rfl) ?_
  refine l_l rfl rfl rfl ?_
  refine l_nil ?_
  refine c_seq ?_
  refine c_seq ?_
  refine c_region ?_
  refine l_l rfl rfl rfl ?_
  refine l_l rfl rfl rfl ?_
  refine l_b rfl rfl rfl (fun h1 => ?_) (fun h1 => ?_)
  · have h1n := by first | exact of_decide_eq_true h1 | exact of_decide_eq_false h1 | exact eq_of_beq h1 | exact ne_of_beq_false h1 | exact bne_t h1 | exact bne_f h1 | exact h1
    refine l_l rfl rfl rfl ?_
    refine l_l rfl rfl rfl ?_
    refine l_l rfl rfl rfl ?_
    refine l_nil ?_
    refine c_cond rfl (fun h2 => ?_) (fun h2 => ?_)
    · have h2n := by first | exact of_decide_eq_true h2 | exact of_decide_eq_false h2 | exact eq_of_beq h2 | exact ne_of_beq_false h2 | exact bne_t h2 | exact bne_f h2 | exact h2
      refine c_seq ?_
      refine c_region ?_
      refine l_l rfl rfl rfl ?_
      refine l_l rfl rfl rfl ?_
      refine l_l (light_fa rfl rfl) rfl rfl ?_
      refine l_x (x_load rfl rfl (at_old (get0 hr.r (cW_V hu (bv := bv) (bs := bs))) (by simp))) rfl rfl ?_
      rintro _ _ ⟨rfl, rfl⟩
      refine l_l rfl rfl rfl ?_
      refine l_as (l_sub rfl rfl) rfl rfl (by first | exact as_i64 (by omega) (by omega) | rfl) ?_
      refine l_l (idx_sliceI rfl rfl rfl (by omega) (by rw [hu.lV]; omega)) rfl rfl ?_
      refine l_x (x_load rfl rfl (at_old (hr.v (a - 32768).toNat _ (map_at (by rw [hu.lV]; omega))) (by simp))) rfl rfl ?_
      rintro _ _ ⟨rfl, rfl⟩
      refine l_l rfl rfl rfl ?_
      refine l_nil ?_
      refine c_ret ?_
      exact l_end0 (fun _ _ => rets_v rfl) ⟨rfl, congrArg _ (by unfold peekU; rw [if_pos (by omega)])⟩
    · have h2n := by first | exact of_decide_eq_true h2 | exact of_decide_eq_false h2 | exact eq_of_beq h2 | exact ne_of_beq_false h2 | exact bne_t h2 | exact bne_f h2 | exact h2
      refine c_skip ?_
      refine c_seq ?_
      refine c_seq ?_
      refine c_region ?_
      refine l_l rfl rfl rfl ?_
      refine l_l rfl rfl rfl ?_
      refine l_b rfl rfl rfl (fun h3 => ?_) (fun h3 => ?_)
      · have h3n := by first | exact of_decide_eq_true h3 | exact of_decide_eq_false h3 | exact eq_of_beq h3 | exact ne_of_beq_false h3 | exact bne_t h3 | exact bne_f h3 | exact h3
        refine l_l rfl rfl rfl ?_
        refine l_l rfl rfl rfl ?_
        refine l_l rfl rfl rfl ?_
        refine l_nil ?_
        refine c_cond rfl (fun h4 => ?_) (fun h4 => ?_)
        · have h4n := by first | exact of_decide_eq_true h4 | exact of_decide_eq_false h4 | exact eq_of_beq h4 | exact ne_of_beq_false h4 | exact bne_t h4 | exact bne_f h4 | exact h4
          refine c_seq ?_
          refine c_region ?_
          refine l_l rfl rfl rfl ?_
          refine l_l rfl rfl rfl ?_
          refine l_l (light_fa rfl rfl) rfl rfl ?_
          refine l_x (x_load rfl rfl (at_old (get0 hr.r (cW_O hu (bv := bv) (bs := bs))) (by simp))) rfl rfl ?_
          rintro _ _ ⟨rfl, rfl⟩
          refine l_l rfl rfl rfl ?_
          refine l_as (l_sub rfl rfl) rfl rfl (by first | exact as_i64 (by omega) (by omega) | rfl) ?_
          refine l_l (idx_sliceI rfl rfl rfl (by omega) (by rw [hu.lO]; omega)) rfl rfl ?_
          refine l_x (x_load rfl rfl (at_old (hr.s (a - 65024).toNat _ (map_at (by rw [hu.lO]; omega))) (by simp))) rfl rfl ?_
          rintro _ _ ⟨rfl, rfl⟩
          refine l_l rfl rfl rfl ?_
          refine l_nil ?_
          refine c_ret ?_
          exact l_end0 (fun _ _ => rets_v rfl) ⟨rfl, congrArg _ (by unfold peekU; rw [if_neg (by omega), if_pos (by omega)])⟩
        · have h4n := by first | exact of_decide_eq_true h4 | exact of_decide_eq_false h4 | exact eq_of_beq h4 | exact ne_of_beq_false h4 | exact bne_t h4 | exact bne_f h4 | exact h4
          refine c_skip ?_
          refine c_seq ?_
          refine c_seq ?_
          refine c_region ?_
          refine l_l rfl rfl rfl ?_
          refine l_l rfl rfl rfl ?_
          refine l_b rfl rfl rfl (fun h5 => ?_) (fun h5 => ?_)
          · have h5n := by first | exact of_decide_eq_true h5 | exact of_decide_eq_false h5 | exact eq_of_beq h5 | exact ne_of_beq_false h5 | exact bne_t h5 | exact bne_f h5 | exact h5
            refine l_p rfl rfl ?_
            refine l_p rfl rfl ?_
            refine l_l rfl rfl rfl ?_
            refine l_l rfl rfl rfl ?_
            refine l_p rfl rfl ?_
            refine l_p rfl rfl ?_
            refine l_l rfl rfl rfl ?_
            refine l_nil ?_
            refine c_true rfl ?_
            refine c_seq ?_
            refine c_region ?_
            refine l_l rfl rfl rfl ?_
            refine l_nil ?_
            refine c_ret ?_
            exact l_end0 (fun _ _ => rets_v rfl) ⟨rfl, congrArg _ (by rw [peek_R ⟨by omega, by omega⟩, if_pos (numU_no (by omega))])⟩
          · have h5n := by first | exact of_decide_eq_true h5 | exact of_decide_eq_false h5 | exact eq_of_beq h5 | exact ne_of_beq_false h5 | exact bne_t h5 | exact bne_f h5 | exact h5
            refine l_l rfl rfl rfl ?_
            refine l_l rfl rfl rfl ?_
            refine l_l rfl rfl rfl ?_
            refine l_b rfl rfl rfl (fun h6 => ?_) (fun h6 => ?_)
            · have h6n := by first | exact of_decide_eq_true h6 | exact of_decide_eq_false h6 | exact eq_of_beq h6 | exact ne_of_beq_false h6 | exact bne_t h6 | exact bne_f h6 | exact h6
              refine l_p rfl rfl ?_
              refine l_p rfl rfl ?_
              refine l_l rfl rfl rfl ?_
              refine l_nil ?_
              refine c_true rfl ?_
              refine c_seq ?_
              refine c_region ?_
              refine l_l rfl rfl rfl ?_
              refine l_nil ?_
              refine c_ret ?_
              exact l_end0 (fun _ _ => rets_v rfl) ⟨rfl, congrArg _ (by rw [peek_R ⟨by omega, by omega⟩, if_pos (numU_no (by omega))])⟩
            · have h6n := by first | exact of_decide_eq_true h6 | exact of_decide_eq_false h6 | exact eq_of_beq h6 | exact ne_of_beq_false h6 | exact bne_t h6 | exact bne_f h6 | exact h6
              refine l_l rfl rfl rfl ?_
              refine l_l rfl rfl rfl ?_
              refine l_l rfl rfl rfl ?_
              refine l_nil ?_
              refine c_cond rfl (fun h7 => ?_) (fun h7 => ?_)
              · have h7n := by first | exact of_decide_eq_true h7 | exact of_decide_eq_false h7 | exact eq_of_beq h7 | exact ne_of_beq_false h7 | exact bne_t h7 | exact bne_f h7 | exact h7
                refine c_seq ?_
                refine c_region ?_
                refine l_l rfl rfl rfl ?_
                refine l_nil ?_
                refine c_ret ?_
                exact l_end0 (fun _ _ => rets_v rfl) ⟨rfl, congrArg _ (by rw [peek_R ⟨by omega, by omega⟩, if_pos (numU_no (by omega))])⟩
              · have h7n := by first | exact of_decide_eq_true h7 | exact of_decide_eq_false h7 | exact eq_of_beq h7 | exact ne_of_beq_false h7 | exact bne_t h7 | exact bne_f h7 | exact h7
                refine c_skip ?_
                refine c_seq ?_
                refine c_seq ?_
                refine c_region ?_
                refine l_l rfl rfl rfl ?_
                refine l_nil ?_
                refine c_block ?_
                refine c_seq ?_
                refine c_region ?_
                refine l_l rfl rfl rfl ?_
                refine l_l rfl rfl rfl ?_
                refine l_nil ?_
                refine c_cond rfl (fun h8 => ?_) (fun h8 => ?_)
                · have h8n := by first | exact of_decide_eq_true h8 | exact of_decide_eq_false h8 | exact eq_of_beq h8 | exact ne_of_beq_false h8 | exact bne_t h8 | exact bne_f h8 | exact h8
                  refine c_seq ?_
                  refine c_draw _ [7, 8] (.step true 0 (.step true 1 (.step true 2 (.step true 3 (.step true 4 (.step true 5 (.step true 6 (.step true 7 (.step false 8 (.step true 9 (.step true 10 .done))))))))))) rfl (by kernel_rfl) (by kernel_rfl) (fun _ h => h) ?_
                  refine d_light rfl rfl rfl rfl rfl ?_
                  refine d_light rfl rfl rfl rfl rfl ?_
                  refine d_light rfl (light_fa rfl rfl) rfl rfl rfl ?_
                  refine d_light rfl (by first | exact idx_array1 1 rfl rfl rfl rfl (by decide) | exact idx_slice1 1 rfl rfl rfl rfl (by decide) | exact idx_array 1 rfl rfl rfl rfl (by decide) | exact idx_slice 1 rfl rfl rfl rfl (by decide)) rfl rfl rfl ?_
                  refine d_load rfl rfl rfl (s_old (get0 hr.r (cW_R hu (j := 1) (by decide))) (by simp)) rfl rfl ?_
                  refine d_as rfl (l_conv rfl rfl rfl) rfl rfl rfl (by first | exact as_i64 (by omega) (by omega) | rfl) ?_
                  refine d_as rfl (l_add rfl rfl) rfl rfl rfl (by first | exact as_i64 (by omega) (by omega) | rfl) ?_
                  refine d_light rfl rfl rfl rfl rfl ?_
                  refine d_x rfl (x_val call_37 rfl (fun w hw => rmode_fn b bv bs u hu w (hr.later hw))) rfl rfl (by intro _ _ _ hK x hx; obtain ⟨rfl, rfl⟩ := hK; repeat (first | exact hx | exact List.mem_append_left _ hx | refine List.mem_append_right _ ?_ | refine .tail _ ?_)) ?_
                  rintro _ _ ⟨rfl, rfl⟩
                  refine d_as rfl (l_add rfl rfl) rfl rfl rfl (by first | exact as_i64 (by omega) (by omega) | rfl) ?_
                  refine d_light rfl rfl rfl rfl rfl ?_
                  refine d_nil ?_
                  refine c_seq ?_
                  refine c_seq ?_
                  refine c_draw _ [1, 7, 8, 9, 10, 11, 12] (.step true 0 (.step false 1 (.step true 2 (.step true 3 (.step true 4 (.step true 5 (.step true 6 (.step true 7 (.step true 8 (.step true 9 (.step true 10 (.step true 11 (.step true 12 (.step true 13 (.step true 14 .done))))))))))))))) rfl (by kernel_rfl) (by kernel_rfl) (fun _ h => h) ?_
                  refine d_light rfl rfl rfl rfl rfl ?_
                  refine d_x rfl (x_val call_48 rfl (fun w hw => on_fn b bv bs u hu w (hr.later hw))) rfl rfl (by intro _ _ _ hK x hx; obtain ⟨rfl, rfl⟩ := hK; repeat (first | exact hx | exact List.mem_append_left _ hx | refine List.mem_append_right _ ?_ | refine .tail _ ?_)) ?_
                  rintro _ _ ⟨rfl, rfl⟩
                  refine d_bool rfl rfl rfl rfl (fun h9 => ?_) (fun h9 => ?_)
                  · have h9n := by first | exact of_decide_eq_true h9 | exact of_decide_eq_false h9 | exact eq_of_beq h9 | exact ne_of_beq_false h9 | exact bne_t h9 | exact bne_f h9 | exact h9
                    refine d_light rfl rfl rfl rfl rfl ?_
                    refine d_light rfl rfl rfl rfl rfl ?_
                    refine d_light rfl (light_fa rfl rfl) rfl rfl rfl ?_
                    refine d_load rfl rfl rfl (s_old (get0 hr.r (cW_line hu)) (by simp)) rfl rfl ?_
                    refine d_light rfl rfl rfl rfl rfl ?_
                    refine d_light rfl rfl rfl rfl rfl ?_
                    refine d_light rfl (light_fa rfl rfl) rfl rfl rfl ?_
                    refine d_light rfl (by first | exact idx_array1 5 rfl rfl rfl rfl (by decide) | exact idx_slice1 5 rfl rfl rfl rfl (by decide) | exact idx_array 5 rfl rfl rfl rfl (by decide) | exact idx_slice 5 rfl rfl rfl rfl (by decide)) rfl rfl rfl ?_
                    refine d_load rfl rfl rfl (s_old (get0 hr.r (cW_R hu (j := 5) (by decide))) (by simp)) rfl rfl ?_
                    refine d_as rfl (l_conv rfl rfl rfl) rfl rfl rfl (by first | exact as_i64 (by omega) (by omega) | rfl) ?_
                    refine d_light rfl rfl rfl rfl rfl ?_
                    refine d_light rfl rfl rfl rfl rfl ?_
                    refine d_nil ?_
                    refine c_cond rfl (fun h10 => ?_) (fun h10 => ?_)
                    · have h10n := by first | exact of_decide_eq_true h10 | exact of_decide_eq_false h10 | exact eq_of_beq h10 | exact ne_of_beq_false h10 | exact bne_t h10 | exact bne_f h10 | exact h10
                      refine c_region ?_
                      refine l_l rfl rfl rfl ?_
                      refine l_as (l_add rfl rfl) rfl rfl (by first | exact as_i64 (by omega) (by omega) | rfl) ?_
                      refine l_l rfl rfl rfl ?_
                      refine l_nil ?_
                      refine c_seq ?_
                      refine c_region ?_
                      refine l_l rfl rfl rfl ?_
                      refine l_as (l_conv rfl rfl rfl) rfl rfl (by first | exact as_u8 (by omega) (by omega) | exact as_u8m _) ?_
                      refine l_l rfl rfl rfl ?_
                      refine l_nil ?_
                      refine c_ret ?_
                      exact l_end0 (fun _ _ => rets_v rfl) ⟨rfl, congrArg _ (peek_found hu (by omega) (by unfold foundU; simp_all)).symm⟩
                    · have h10n := by first | exact of_decide_eq_true h10 | exact of_decide_eq_false h10 | exact eq_of_beq h10 | exact ne_of_beq_false h10 | exact bne_t h10 | exact bne_f h10 | exact h10
                      refine c_skip ?_
                      refine c_seq ?_
                      refine c_region ?_
                      refine l_l rfl rfl rfl ?_
                      refine l_as (l_conv rfl rfl rfl) rfl rfl (by first | exact as_u8 (by omega) (by omega) | exact as_u8m _) ?_
                      refine l_l rfl rfl rfl ?_
                      refine l_nil ?_
                      refine c_ret ?_
                      exact l_end0 (fun _ _ => rets_v rfl) ⟨rfl, congrArg _ (peek_not hu (by omega) (by unfold foundU; simp_all)).symm⟩
                  · have h9n := by first | exact of_decide_eq_true h9 | exact of_decide_eq_false h9 | exact eq_of_beq h9 | exact ne_of_beq_false h9 | exact bne_t h9 | exact bne_f h9 | exact h9
                    refine d_pass rfl rfl rfl ?_
                    refine d_pass rfl rfl rfl ?_
                    refine d_pass rfl rfl rfl ?_
                    refine d_pass rfl rfl rfl ?_
                    refine d_pass rfl rfl rfl ?_
                    refine d_pass rfl rfl rfl ?_
                    refine d_pass rfl rfl rfl ?_
                    refine d_pass rfl rfl rfl ?_
                    refine d_pass rfl rfl rfl ?_
                    refine d_pass rfl rfl rfl ?_
                    refine d_pass rfl rfl rfl ?_
                    refine d_light rfl rfl rfl rfl rfl ?_
                    refine d_nil ?_
                    refine c_false rfl ?_
                    refine c_skip ?_
                    refine c_seq ?_
                    refine c_region ?_
                    refine l_l rfl rfl rfl ?_
                    refine l_as (l_conv rfl rfl rfl) rfl rfl (by first | exact as_u8 (by omega) (by omega) | exact as_u8m _) ?_
                    refine l_l rfl rfl rfl ?_
                    refine l_nil ?_
                    refine c_ret ?_
                    exact l_end0 (fun _ _ => rets_v rfl) ⟨rfl, congrArg _ (peek_not hu (by omega) (by unfold foundU; simp_all)).symm⟩
                · have h8n := by first | exact of_decide_eq_true h8 | exact of_decide_eq_false h8 | exact eq_of_beq h8 | exact ne_of_beq_false h8 | exact bne_t h8 | exact bne_f h8 | exact h8
                  refine c_seq ?_
                  refine c_region ?_
                  refine l_l rfl rfl rfl ?_
                  refine l_l rfl rfl rfl ?_
                  refine l_nil ?_
                  refine c_cond rfl (fun h11 => ?_) (fun h11 => ?_)
                  · have h11n := by first | exact of_decide_eq_true h11 | exact of_decide_eq_false h11 | exact eq_of_beq h11 | exact ne_of_beq_false h11 | exact bne_t h11 | exact bne_f h11 | exact h11
                    refine c_seq ?_
                    refine c_region ?_
                    refine l_l rfl rfl rfl ?_
                    refine l_l rfl rfl rfl ?_
                    refine l_l (light_fa rfl rfl) rfl rfl ?_
                    refine l_x (x_load rfl rfl (at_old (get0 hr.r (cW_line hu)) (by simp))) rfl rfl ?_
                    rintro _ _ ⟨rfl, rfl⟩
                    refine l_as (l_conv rfl rfl rfl) rfl rfl (by first | exact as_u8 (by omega) (by omega) | exact as_u8m _) ?_
                    refine l_l rfl rfl rfl ?_
                    refine l_nil ?_
                    refine c_ret ?_
                    exact l_end0 (fun _ _ => rets_v rfl) ⟨rfl, congrArg _ (peek_line hu (by omega)).symm⟩
                  · have h11n := by first | exact of_decide_eq_true h11 | exact of_decide_eq_false h11 | exact eq_of_beq h11 | exact ne_of_beq_false h11 | exact bne_t h11 | exact bne_f h11 | exact h11
                    refine c_skip ?_
                    refine c_seq ?_
                    refine c_region ?_
                    refine l_l rfl rfl rfl ?_
                    refine l_l rfl rfl rfl ?_
                    refine l_as (l_sub rfl rfl) rfl rfl (by first | exact as_i64 (by omega) (by omega) | rfl) ?_
                    refine l_l rfl rfl rfl ?_
                    refine l_l (light_fa rfl rfl) rfl rfl ?_
                    refine l_l (idx_arrayI rfl rfl rfl (by omega) (by omega)) rfl rfl ?_
                    refine l_x (x_load rfl rfl (at_old (get0 hr.r (cW_R hu (j := (a - 65344).toNat) (by omega))) (by simp))) rfl rfl ?_
                    rintro _ _ ⟨rfl, rfl⟩
                    refine l_l rfl rfl rfl ?_
                    refine l_nil ?_
                    refine c_ret ?_
                    exact l_end0 (fun _ _ => rets_v rfl) ⟨rfl, congrArg _ (peek_byte ⟨by omega, by omega⟩ (by omega) (by omega) (by omega)).symm⟩
      · have h3n := by first | exact of_decide_eq_true h3 | exact of_decide_eq_false h3 | exact eq_of_beq h3 | exact ne_of_beq_false h3 | exact bne_t h3 | exact bne_f h3 | exact h3
        refine l_p rfl rfl ?_
        refine l_p rfl rfl ?_
        refine l_l rfl rfl rfl ?_
        refine l_nil ?_
        refine c_false rfl ?_
        refine c_skip ?_
        refine c_seq ?_
        refine c_seq ?_
        refine c_region ?_
        refine l_l rfl rfl rfl ?_
        refine l_l rfl rfl rfl ?_
        refine l_b rfl rfl rfl (fun h12 => ?_) (fun h12 => ?_)
        · have h12n := by first | exact of_decide_eq_true h12 | exact of_decide_eq_false h12 | exact eq_of_beq h12 | exact ne_of_beq_false h12 | exact bne_t h12 | exact bne_f h12 | exact h12
          refine l_p rfl rfl ?_
          refine l_p rfl rfl ?_
          refine l_l rfl rfl rfl ?_
          refine l_l rfl rfl rfl ?_
          refine l_p rfl rfl ?_
          refine l_p rfl rfl ?_
          refine l_l rfl rfl rfl ?_
          refine l_nil ?_
          refine c_true rfl ?_
          refine c_seq ?_
          refine c_region ?_
          refine l_l rfl rfl rfl ?_
          refine l_nil ?_
          refine c_ret ?_
          exact l_end0 (fun _ _ => rets_v rfl) ⟨rfl, congrArg _ (by rw [peek_R ⟨by omega, by omega⟩, if_pos (numU_no (by omega))])⟩
        · have h12n := by first | exact of_decide_eq_true h12 | exact of_decide_eq_false h12 | exact eq_of_beq h12 | exact ne_of_beq_false h12 | exact bne_t h12 | exact bne_f h12 | exact h12
          refine l_l rfl rfl rfl ?_
          refine l_l rfl rfl rfl ?_
          refine l_l rfl rfl rfl ?_
          refine l_b rfl rfl rfl (fun h13 => ?_) (fun h13 => ?_)
          · have h13n := by first | exact of_decide_eq_true h13 | exact of_decide_eq_false h13 | exact eq_of_beq h13 | exact ne_of_beq_false h13 | exact bne_t h13 | exact bne_f h13 | exact h13
            refine l_p rfl rfl ?_
            refine l_p rfl rfl ?_
            refine l_l rfl rfl rfl ?_
            refine l_nil ?_
            refine c_true rfl ?_
            refine c_seq ?_
            refine c_region ?_
            refine l_l rfl rfl rfl ?_
            refine l_nil ?_
            refine c_ret ?_
            exact l_end0 (fun _ _ => rets_v rfl) ⟨rfl, congrArg _ (by rw [peek_R ⟨by omega, by omega⟩, if_pos (numU_no (by omega))])⟩
          · have h13n := by first | exact of_decide_eq_true h13 | exact of_decide_eq_false h13 | exact eq_of_beq h13 | exact ne_of_beq_false h13 | exact bne_t h13 | exact bne_f h13 | exact h13
            refine l_l rfl rfl rfl ?_
            refine l_l rfl rfl rfl ?_
            refine l_l rfl rfl rfl ?_
            refine l_nil ?_
            refine c_cond rfl (fun h14 => ?_) (fun h14 => ?_)
            · have h14n := by first | exact of_decide_eq_true h14 | exact of_decide_eq_false h14 | exact eq_of_beq h14 | exact ne_of_beq_false h14 | exact bne_t h14 | exact bne_f h14 | exact h14
              refine c_seq ?_
              refine c_region ?_
              refine l_l rfl rfl rfl ?_
              refine l_nil ?_
              refine c_ret ?_
              exact l_end0 (fun _ _ => rets_v rfl) ⟨rfl, congrArg _ (by rw [peek_R ⟨by omega, by omega⟩, if_pos (numU_no (by omega))])⟩
            · have h14n := by first | exact of_decide_eq_true h14 | exact of_decide_eq_false h14 | exact eq_of_beq h14 | exact ne_of_beq_false h14 | exact bne_t h14 | exact bne_f h14 | exact h14
              refine c_skip ?_
              refine c_seq ?_
              refine c_seq ?_
              refine c_region ?_
              refine l_l rfl rfl rfl ?_
              refine l_nil ?_
              refine c_block ?_
              refine c_seq ?_
              refine c_region ?_
              refine l_l rfl rfl rfl ?_
              refine l_l rfl rfl rfl ?_
              refine l_nil ?_
              refine c_cond rfl (fun h15 => ?_) (fun h15 => ?_)
              · have h15n := by first | exact of_decide_eq_true h15 | exact of_decide_eq_false h15 | exact eq_of_beq h15 | exact ne_of_beq_false h15 | exact bne_t h15 | exact bne_f h15 | exact h15
                refine c_seq ?_
                refine c_draw _ [7, 8] (.step true 0 (.step true 1 (.step true 2 (.step true 3 (.step true 4 (.step true 5 (.step true 6 (.step true 7 (.step false 8 (.step true 9 (.step true 10 .done))))))))))) rfl (by kernel_rfl) (by kernel_rfl) (fun _ h => h) ?_
                refine d_light rfl rfl rfl rfl rfl ?_
                refine d_light rfl rfl rfl rfl rfl ?_
                refine d_light rfl (light_fa rfl rfl) rfl rfl rfl ?_
                refine d_light rfl (by first | exact idx_array1 1 rfl rfl rfl rfl (by decide) | exact idx_slice1 1 rfl rfl rfl rfl (by decide) | exact idx_array 1 rfl rfl rfl rfl (by decide) | exact idx_slice 1 rfl rfl rfl rfl (by decide)) rfl rfl rfl ?_
                refine d_load rfl rfl rfl (s_old (get0 hr.r (cW_R hu (j := 1) (by decide))) (by simp)) rfl rfl ?_
                refine d_as rfl (l_conv rfl rfl rfl) rfl rfl rfl (by first | exact as_i64 (by omega) (by omega) | rfl) ?_
                refine d_as rfl (l_add rfl rfl) rfl rfl rfl (by first | exact as_i64 (by omega) (by omega) | rfl) ?_
                refine d_light rfl rfl rfl rfl rfl ?_
                refine d_x rfl (x_val call_37 rfl (fun w hw => rmode_fn b bv bs u hu w (hr.later hw))) rfl rfl (by intro _ _ _ hK x hx; obtain ⟨rfl, rfl⟩ := hK; repeat (first | exact hx | exact List.mem_append_left _ hx | refine List.mem_append_right _ ?_ | refine .tail _ ?_)) ?_
                rintro _ _ ⟨rfl, rfl⟩
                refine d_as rfl (l_add rfl rfl) rfl rfl rfl (by first | exact as_i64 (by omega) (by omega) | rfl) ?_
                refine d_light rfl rfl rfl rfl rfl ?_
                refine d_nil ?_
                refine c_seq ?_
                refine c_seq ?_
                refine c_draw _ [1, 7, 8, 9, 10, 11, 12] (.step true 0 (.step false 1 (.step true 2 (.step true 3 (.step true 4 (.step true 5 (.step true 6 (.step true 7 (.step true 8 (.step true 9 (.step true 10 (.step true 11 (.step true 12 (.step true 13 (.step true 14 .done))))))))))))))) rfl (by kernel_rfl) (by kernel_rfl) (fun _ h => h) ?_
                refine d_light rfl rfl rfl rfl rfl ?_
                refine d_x rfl (x_val call_48 rfl (fun w hw => on_fn b bv bs u hu w (hr.later hw))) rfl rfl (by intro _ _ _ hK x hx; obtain ⟨rfl, rfl⟩ := hK; repeat (first | exact hx | exact List.mem_append_left _ hx | refine List.mem_append_right _ ?_ | refine .tail _ ?_)) ?_
                rintro _ _ ⟨rfl, rfl⟩
                refine d_bool rfl rfl rfl rfl (fun h16 => ?_) (fun h16 => ?_)
                · have h16n := by first | exact of_decide_eq_true h16 | exact of_decide_eq_false h16 | exact eq_of_beq h16 | exact ne_of_beq_false h16 | exact bne_t h16 | exact bne_f h16 | exact h16
                  refine d_light rfl rfl rfl rfl rfl ?_
                  refine d_light rfl rfl rfl rfl rfl ?_
                  refine d_light rfl (light_fa rfl rfl) rfl rfl rfl ?_
                  refine d_load rfl rfl rfl (s_old (get0 hr.r (cW_line hu)) (by simp)) rfl rfl ?_
                  refine d_light rfl rfl rfl rfl rfl ?_
                  refine d_light rfl rfl rfl rfl rfl ?_
                  refine d_light rfl (light_fa rfl rfl) rfl rfl rfl ?_
                  refine d_light rfl (by first | exact idx_array1 5 rfl rfl rfl rfl (by decide) | exact idx_slice1 5 rfl rfl rfl rfl (by decide) | exact idx_array 5 rfl rfl rfl rfl (by decide) | exact idx_slice 5 rfl rfl rfl rfl (by decide)) rfl rfl rfl ?_
                  refine d_load rfl rfl rfl (s_old (get0 hr.r (cW_R hu (j := 5) (by decide))) (by simp)) rfl rfl ?_
                  refine d_as rfl (l_conv rfl rfl rfl) rfl rfl rfl (by first | exact as_i64 (by omega) (by omega) | rfl) ?_
                  refine d_light rfl rfl rfl rfl rfl ?_
                  refine d_light rfl rfl rfl rfl rfl ?_
                  refine d_nil ?_
                  refine c_cond rfl (fun h17 => ?_) (fun h17 => ?_)
                  · have h17n := by first | exact of_decide_eq_true h17 | exact of_decide_eq_false h17 | exact eq_of_beq h17 | exact ne_of_beq_false h17 | exact bne_t h17 | exact bne_f h17 | exact h17
                    refine c_region ?_
                    refine l_l rfl rfl rfl ?_
                    refine l_as (l_add rfl rfl) rfl rfl (by first | exact as_i64 (by omega) (by omega) | rfl) ?_
                    refine l_l rfl rfl rfl ?_
                    refine l_nil ?_
                    refine c_seq ?_
                    refine c_region ?_
                    refine l_l rfl rfl rfl ?_
                    refine l_as (l_conv rfl rfl rfl) rfl rfl (by first | exact as_u8 (by omega) (by omega) | exact as_u8m _) ?_
                    refine l_l rfl rfl rfl ?_
                    refine l_nil ?_
                    refine c_ret ?_
                    exact l_end0 (fun _ _ => rets_v rfl) ⟨rfl, congrArg _ (peek_found hu (by omega) (by unfold foundU; simp_all)).symm⟩
                  · have h17n := by first | exact of_decide_eq_true h17 | exact of_decide_eq_false h17 | exact eq_of_beq h17 | exact ne_of_beq_false h17 | exact bne_t h17 | exact bne_f h17 | exact h17
                    refine c_skip ?_
                    refine c_seq ?_
                    refine c_region ?_
                    refine l_l rfl rfl rfl ?_
                    refine l_as (l_conv rfl rfl rfl) rfl rfl (by first | exact as_u8 (by omega) (by omega) | exact as_u8m _) ?_
                    refine l_l rfl rfl rfl ?_
                    refine l_nil ?_
                    refine c_ret ?_
                    exact l_end0 (fun _ _ => rets_v rfl) ⟨rfl, congrArg _ (peek_not hu (by omega) (by unfold foundU; simp_all)).symm⟩
                · have h16n := by first | exact of_decide_eq_true h16 | exact of_decide_eq_false h16 | exact eq_of_beq h16 | exact ne_of_beq_false h16 | exact bne_t h16 | exact bne_f h16 | exact h16
                  refine d_pass rfl rfl rfl ?_
                  refine d_pass rfl rfl rfl ?_
                  refine d_pass rfl rfl rfl ?_
                  refine d_pass rfl rfl rfl ?_
                  refine d_pass rfl rfl rfl ?_
                  refine d_pass rfl rfl rfl ?_
                  refine d_pass rfl rfl rfl ?_
                  refine d_pass rfl rfl rfl ?_
                  refine d_pass rfl rfl rfl ?_
                  refine d_pass rfl rfl rfl ?_
                  refine d_pass rfl rfl rfl ?_
                  refine d_light rfl rfl rfl rfl rfl ?_
                  refine d_nil ?_
                  refine c_false rfl ?_
                  refine c_skip ?_
                  refine c_seq ?_
                  refine c_region ?_
                  refine l_l rfl rfl rfl ?_
                  refine l_as (l_conv rfl rfl rfl) rfl rfl (by first | exact as_u8 (by omega) (by omega) | exact as_u8m _) ?_
                  refine l_l rfl rfl rfl ?_
                  refine l_nil ?_
                  refine c_ret ?_
                  exact l_end0 (fun _ _ => rets_v rfl) ⟨rfl, congrArg _ (peek_not hu (by omega) (by unfold foundU; simp_all)).symm⟩
              · have h15n := by first | exact of_decide_eq_true h15 | exact of_decide_eq_false h15 | exact eq_of_beq h15 | exact ne_of_beq_false h15 | exact bne_t h15 | exact bne_f h15 | exact h15
                refine c_seq ?_
                refine c_region ?_
                refine l_l rfl rfl rfl ?_
                refine l_l rfl rfl rfl ?_
                refine l_nil ?_
                refine c_cond rfl (fun h18 => ?_) (fun h18 => ?_)
                · have h18n := by first | exact of_decide_eq_true h18 | exact of_decide_eq_false h18 | exact eq_of_beq h18 | exact ne_of_beq_false h18 | exact bne_t h18 | exact bne_f h18 | exact h18
                  refine c_seq ?_
                  refine c_region ?_
                  refine l_l rfl rfl rfl ?_
                  refine l_l rfl rfl rfl ?_
                  refine l_l (light_fa rfl rfl) rfl rfl ?_
                  refine l_x (x_load rfl rfl (at_old (get0 hr.r (cW_line hu)) (by simp))) rfl rfl ?_
                  rintro _ _ ⟨rfl, rfl⟩
                  refine l_as (l_conv rfl rfl rfl) rfl rfl (by first | exact as_u8 (by omega) (by omega) | exact as_u8m _) ?_
                  refine l_l rfl rfl rfl ?_
                  refine l_nil ?_
                  refine c_ret ?_
                  exact l_end0 (fun _ _ => rets_v rfl) ⟨rfl, congrArg _ (peek_line hu (by omega)).symm⟩
                · have h18n := by first | exact of_decide_eq_true h18 | exact of_decide_eq_false h18 | exact eq_of_beq h18 | exact ne_of_beq_false h18 | exact bne_t h18 | exact bne_f h18 | exact h18
                  refine c_skip ?_
                  refine c_seq ?_
                  refine c_region ?_
                  refine l_l rfl rfl rfl ?_
                  refine l_l rfl rfl rfl ?_
                  refine l_as (l_sub rfl rfl) rfl rfl (by first | exact as_i64 (by omega) (by omega) | rfl) ?_
                  refine l_l rfl rfl rfl ?_
                  refine l_l (light_fa rfl rfl) rfl rfl ?_
                  refine l_l (idx_arrayI rfl rfl rfl (by omega) (by omega)) rfl rfl ?_
                  refine l_x (x_load rfl rfl (at_old (get0 hr.r (cW_R hu (j := (a - 65344).toNat) (by omega))) (by simp))) rfl rfl ?_
                  rintro _ _ ⟨rfl, rfl⟩
                  refine l_l rfl rfl rfl ?_
                  refine l_nil ?_
                  refine c_ret ?_
                  exact l_end0 (fun _ _ => rets_v rfl) ⟨rfl, congrArg _ (peek_byte ⟨by omega, by omega⟩ (by omega) (by omega) (by omega)).symm⟩
  · have h1n := by first | exact of_decide_eq_true h1 | exact of_decide_eq_false h1 | exact eq_of_beq h1 | exact ne_of_beq_false h1 | exact bne_t h1 | exact bne_f h1 | exact h1
    refine l_p rfl rfl ?_
    refine l_p rfl rfl ?_
    refine l_l rfl rfl rfl ?_
    refine l_nil ?_
    refine c_false rfl ?_
    refine c_skip ?_
    refine c_seq ?_
    refine c_seq ?_
    refine c_region ?_
    refine l_l rfl rfl rfl ?_
    refine l_l rfl rfl rfl ?_
    refine l_b rfl rfl rfl (fun h19 => ?_) (fun h19 => ?_)
    · have h19n := by first | exact of_decide_eq_true h19 | exact of_decide_eq_false h19 | exact eq_of_beq h19 | exact ne_of_beq_false h19 | exact bne_t h19 | exact bne_f h19 | exact h19
      refine l_l rfl rfl rfl ?_
      refine l_l rfl rfl rfl ?_
      refine l_l rfl rfl rfl ?_
      refine l_nil ?_
      refine c_cond rfl (fun h20 => ?_) (fun h20 => ?_)
      · have h20n := by first | exact of_decide_eq_true h20 | exact of_decide_eq_false h20 | exact eq_of_beq h20 | exact ne_of_beq_false h20 | exact bne_t h20 | exact bne_f h20 | exact h20
        refine c_seq ?_
        refine c_region ?_
        refine l_l rfl rfl rfl ?_
        refine l_l rfl rfl rfl ?_
        refine l_l (light_fa rfl rfl) rfl rfl ?_
        refine l_x (x_load rfl rfl (at_old (get0 hr.r (cW_O hu (bv := bv) (bs := bs))) (by simp))) rfl rfl ?_
        rintro _ _ ⟨rfl, rfl⟩
        refine l_l rfl rfl rfl ?_
        refine l_as (l_sub rfl rfl) rfl rfl (by first | exact as_i64 (by omega) (by omega) | rfl) ?_
        refine l_l (idx_sliceI rfl rfl rfl (by omega) (by rw [hu.lO]; omega)) rfl rfl ?_
        refine l_x (x_load rfl rfl (at_old (hr.s (a - 65024).toNat _ (map_at (by rw [hu.lO]; omega))) (by simp))) rfl rfl ?_
        rintro _ _ ⟨rfl, rfl⟩
        refine l_l rfl rfl rfl ?_
        refine l_nil ?_
        refine c_ret ?_
        exact l_end0 (fun _ _ => rets_v rfl) ⟨rfl, congrArg _ (by unfold peekU; rw [if_neg (by omega), if_pos (by omega)])⟩
      · have h20n := by first | exact of_decide_eq_true h20 | exact of_decide_eq_false h20 | exact eq_of_beq h20 | exact ne_of_beq_false h20 | exact bne_t h20 | exact bne_f h20 | exact h20
        refine c_skip ?_
        refine c_seq ?_
        refine c_seq ?_
        refine c_region ?_
        refine l_l rfl rfl rfl ?_
        refine l_l rfl rfl rfl ?_
        refine l_b rfl rfl rfl (fun h21 => ?_) (fun h21 => ?_)
        · have h21n := by first | exact of_decide_eq_true h21 | exact of_decide_eq_false h21 | exact eq_of_beq h21 | exact ne_of_beq_false h21 | exact bne_t h21 | exact bne_f h21 | exact h21
          refine l_p rfl rfl ?_
          refine l_p rfl rfl ?_
          refine l_l rfl rfl rfl ?_
          refine l_l rfl rfl rfl ?_
          refine l_p rfl rfl ?_
          refine l_p rfl rfl ?_
          refine l_l rfl rfl rfl ?_
          refine l_nil ?_
          refine c_true rfl ?_
          refine c_seq ?_
          refine c_region ?_
          refine l_l rfl rfl rfl ?_
          refine l_nil ?_
          refine c_ret ?_
          exact l_end0 (fun _ _ => rets_v rfl) ⟨rfl, congrArg _ (by rw [peek_R ⟨by omega, by omega⟩, if_pos (numU_no (by omega))])⟩
        · have h21n := by first | exact of_decide_eq_true h21 | exact of_decide_eq_false h21 | exact eq_of_beq h21 | exact ne_of_beq_false h21 | exact bne_t h21 | exact bne_f h21 | exact h21
          refine l_l rfl rfl rfl ?_
          refine l_l rfl rfl rfl ?_
          refine l_l rfl rfl rfl ?_
          refine l_b rfl rfl rfl (fun h22 => ?_) (fun h22 => ?_)
          · have h22n := by first | exact of_decide_eq_true h22 | exact of_decide_eq_false h22 | exact eq_of_beq h22 | exact ne_of_beq_false h22 | exact bne_t h22 | exact bne_f h22 | exact h22
            refine l_p rfl rfl ?_
            refine l_p rfl rfl ?_
            refine l_l rfl rfl rfl ?_
            refine l_nil ?_
            refine c_true rfl ?_
            refine c_seq ?_
            refine c_region ?_
            refine l_l rfl rfl rfl ?_
            refine l_nil ?_
            refine c_ret ?_
            exact l_end0 (fun _ _ => rets_v rfl) ⟨rfl, congrArg _ (by rw [peek_R ⟨by omega, by omega⟩, if_pos (numU_no (by omega))])⟩
          · have h22n := by first | exact of_decide_eq_true h22 | exact of_decide_eq_false h22 | exact eq_of_beq h22 | exact ne_of_beq_false h22 | exact bne_t h22 | exact bne_f h22 | exact h22
            refine l_l rfl rfl rfl ?_
            refine l_l rfl rfl rfl ?_
            refine l_l rfl rfl rfl ?_
            refine l_nil ?_
            refine c_cond rfl (fun h23 => ?_) (fun h23 => ?_)
            · have h23n := by first | exact of_decide_eq_true h23 | exact of_decide_eq_false h23 | exact eq_of_beq h23 | exact ne_of_beq_false h23 | exact bne_t h23 | exact bne_f h23 | exact h23
              refine c_seq ?_
              refine c_region ?_
              refine l_l rfl rfl rfl ?_
              refine l_nil ?_
              refine c_ret ?_
              exact l_end0 (fun _ _ => rets_v rfl) ⟨rfl, congrArg _ (by rw [peek_R ⟨by omega, by omega⟩, if_pos (numU_no (by omega))])⟩
            · have h23n := by first | exact of_decide_eq_true h23 | exact of_decide_eq_false h23 | exact eq_of_beq h23 | exact ne_of_beq_false h23 | exact bne_t h23 | exact bne_f h23 | exact h23
              refine c_skip ?_
              refine c_seq ?_
              refine c_seq ?_
              refine c_region ?_
              refine l_l rfl rfl rfl ?_
              refine l_nil ?_
              refine c_block ?_
              refine c_seq ?_
              refine c_region ?_
              refine l_l rfl rfl rfl ?_
              refine l_l rfl rfl rfl ?_
              refine l_nil ?_
              refine c_cond rfl (fun h24 => ?_) (fun h24 => ?_)
              · have h24n := by first | exact of_decide_eq_true h24 | exact of_decide_eq_false h24 | exact eq_of_beq h24 | exact ne_of_beq_false h24 | exact bne_t h24 | exact bne_f h24 | exact h24
                refine c_seq ?_
                refine c_draw _ [7, 8] (.step true 0 (.step true 1 (.step true 2 (.step true 3 (.step true 4 (.step true 5 (.step true 6 (.step true 7 (.step false 8 (.step true 9 (.step true 10 .done))))))))))) rfl (by kernel_rfl) (by kernel_rfl) (fun _ h => h) ?_
                refine d_light rfl rfl rfl rfl rfl ?_
                refine d_light rfl rfl rfl rfl rfl ?_
                refine d_light rfl (light_fa rfl rfl) rfl rfl rfl ?_
                refine d_light rfl (by first | exact idx_array1 1 rfl rfl rfl rfl (by decide) | exact idx_slice1 1 rfl rfl rfl rfl (by decide) | exact idx_array 1 rfl rfl rfl rfl (by decide) | exact idx_slice 1 rfl rfl rfl rfl (by decide)) rfl rfl rfl ?_
                refine d_load rfl rfl rfl (s_old (get0 hr.r (cW_R hu (j := 1) (by decide))) (by simp)) rfl rfl ?_
                refine d_as rfl (l_conv rfl rfl rfl) rfl rfl rfl (by first | exact as_i64 (by omega) (by omega) | rfl) ?_
                refine d_as rfl (l_add rfl rfl) rfl rfl rfl (by first | exact as_i64 (by omega) (by omega) | rfl) ?_
                refine d_light rfl rfl rfl rfl rfl ?_
                refine d_x rfl (x_val call_37 rfl (fun w hw => rmode_fn b bv bs u hu w (hr.later hw))) rfl rfl (by intro _ _ _ hK x hx; obtain ⟨rfl, rfl⟩ := hK; repeat (first | exact hx | exact List.mem_append_left _ hx | refine List.mem_append_right _ ?_ | refine .tail _ ?_)) ?_
                rintro _ _ ⟨rfl, rfl⟩
                refine d_as rfl (l_add rfl rfl) rfl rfl rfl (by first | exact as_i64 (by omega) (by omega) | rfl) ?_
                refine d_light rfl rfl rfl rfl rfl ?_
                refine d_nil ?_
                refine c_seq ?_
                refine c_seq ?_
                refine c_draw _ [1, 7, 8, 9, 10, 11, 12] (.step true 0 (.step false 1 (.step true 2 (.step true 3 (.step true 4 (.step true 5 (.step true 6 (.step true 7 (.step true 8 (.step true 9 (.step true 10 (.step true 11 (.step true 12 (.step true 13 (.step true 14 .done))))))))))))))) rfl (by kernel_rfl) (by kernel_rfl) (fun _ h => h) ?_
                refine d_light rfl rfl rfl rfl rfl ?_
                refine d_x rfl (x_val call_48 rfl (fun w hw => on_fn b bv bs u hu w (hr.later hw))) rfl rfl (by intro _ _ _ hK x hx; obtain ⟨rfl, rfl⟩ := hK; repeat (first | exact hx | exact List.mem_append_left _ hx | refine List.mem_append_right _ ?_ | refine .tail _ ?_)) ?_
                rintro _ _ ⟨rfl, rfl⟩
                refine d_bool rfl rfl rfl rfl (fun h25 => ?_) (fun h25 => ?_)
                · have h25n := by first | exact of_decide_eq_true h25 | exact of_decide_eq_false h25 | exact eq_of_beq h25 | exact ne_of_beq_false h25 | exact bne_t h25 | exact bne_f h25 | exact h25
                  refine d_light rfl rfl rfl rfl rfl ?_
                  refine d_light rfl rfl rfl rfl rfl ?_
                  refine d_light rfl (light_fa rfl rfl) rfl rfl rfl ?_
                  refine d_load rfl rfl rfl (s_old (get0 hr.r (cW_line hu)) (by simp)) rfl rfl ?_
                  refine d_light rfl rfl rfl rfl rfl ?_
                  refine d_light rfl rfl rfl rfl rfl ?_
                  refine d_light rfl (light_fa rfl rfl) rfl rfl rfl ?_
                  refine d_light rfl (by first | exact idx_array1 5 rfl rfl rfl rfl (by decide) | exact idx_slice1 5 rfl rfl rfl rfl (by decide) | exact idx_array 5 rfl rfl rfl rfl (by decide) | exact idx_slice 5 rfl rfl rfl rfl (by decide)) rfl rfl rfl ?_
                  refine d_load rfl rfl rfl (s_old (get0 hr.r (cW_R hu (j := 5) (by decide))) (by simp)) rfl rfl ?_
                  refine d_as rfl (l_conv rfl rfl rfl) rfl rfl rfl (by first | exact as_i64 (by omega) (by omega) | rfl) ?_
                  refine d_light rfl rfl rfl rfl rfl ?_
                  refine d_light rfl rfl rfl rfl rfl ?_
                  refine d_nil ?_
                  refine c_cond rfl (fun h26 => ?_) (fun h26 => ?_)
                  · have h26n := by first | exact of_decide_eq_true h26 | exact of_decide_eq_false h26 | exact eq_of_beq h26 | exact ne_of_beq_false h26 | exact bne_t h26 | exact bne_f h26 | exact h26
                    refine c_region ?_
                    refine l_l rfl rfl rfl ?_
                    refine l_as (l_add rfl rfl) rfl rfl (by first | exact as_i64 (by omega) (by omega) | rfl) ?_
                    refine l_l rfl rfl rfl ?_
                    refine l_nil ?_
                    refine c_seq ?_
                    refine c_region ?_
                    refine l_l rfl rfl rfl ?_
                    refine l_as (l_conv rfl rfl rfl) rfl rfl (by first | exact as_u8 (by omega) (by omega) | exact as_u8m _) ?_
                    refine l_l rfl rfl rfl ?_
                    refine l_nil ?_
                    refine c_ret ?_
                    exact l_end0 (fun _ _ => rets_v rfl) ⟨rfl, congrArg _ (peek_found hu (by omega) (by unfold foundU; simp_all)).symm⟩
                  · have h26n := by first | exact of_decide_eq_true h26 | exact of_decide_eq_false h26 | exact eq_of_beq h26 | exact ne_of_beq_false h26 | exact bne_t h26 | exact bne_f h26 | exact h26
                    refine c_skip ?_
                    refine c_seq ?_
                    refine c_region ?_
                    refine l_l rfl rfl rfl ?_
                    refine l_as (l_conv rfl rfl rfl) rfl rfl (by first | exact as_u8 (by omega) (by omega) | exact as_u8m _) ?_
                    refine l_l rfl rfl rfl ?_
                    refine l_nil ?_
                    refine c_ret ?_
                    exact l_end0 (fun _ _ => rets_v rfl) ⟨rfl, congrArg _ (peek_not hu (by omega) (by unfold foundU; simp_all)).symm⟩
                · have h25n := by first | exact of_decide_eq_true h25 | exact of_decide_eq_false h25 | exact eq_of_beq h25 | exact ne_of_beq_false h25 | exact bne_t h25 | exact bne_f h25 | exact h25
                  refine d_pass rfl rfl rfl ?_
                  refine d_pass rfl rfl rfl ?_
                  refine d_pass rfl rfl rfl ?_
                  refine d_pass rfl rfl rfl ?_
                  refine d_pass rfl rfl rfl ?_
                  refine d_pass rfl rfl rfl ?_
                  refine d_pass rfl rfl rfl ?_
                  refine d_pass rfl rfl rfl ?_
                  refine d_pass rfl rfl rfl ?_
                  refine d_pass rfl rfl rfl ?_
                  refine d_pass rfl rfl rfl ?_
                  refine d_light rfl rfl rfl rfl rfl ?_
                  refine d_nil ?_
                  refine c_false rfl ?_
                  refine c_skip ?_
                  refine c_seq ?_
                  refine c_region ?_
                  refine l_l rfl rfl rfl ?_
                  refine l_as (l_conv rfl rfl rfl) rfl rfl (by first | exact as_u8 (by omega) (by omega) | exact as_u8m _) ?_
                  refine l_l rfl rfl rfl ?_
                  refine l_nil ?_
                  refine c_ret ?_
                  exact l_end0 (fun _ _ => rets_v rfl) ⟨rfl, congrArg _ (peek_not hu (by omega) (by unfold foundU; simp_all)).symm⟩
              · have h24n := by first | exact of_decide_eq_true h24 | exact of_decide_eq_false h24 | exact eq_of_beq h24 | exact ne_of_beq_false h24 | exact bne_t h24 | exact bne_f h24 | exact h24
                refine c_seq ?_
                refine c_region ?_
                refine l_l rfl rfl rfl ?_
                refine l_l rfl rfl rfl ?_
                refine l_nil ?_
                refine c_cond rfl (fun h27 => ?_) (fun h27 => ?_)
                · have h27n := by first | exact of_decide_eq_true h27 | exact of_decide_eq_false h27 | exact eq_of_beq h27 | exact ne_of_beq_false h27 | exact bne_t h27 | exact bne_f h27 | exact h27
                  refine c_seq ?_
                  refine c_region ?_
                  refine l_l rfl rfl rfl ?_
                  refine l_l rfl rfl rfl ?_
                  refine l_l (light_fa rfl rfl) rfl rfl ?_
                  refine l_x (x_load rfl rfl (at_old (get0 hr.r (cW_line hu)) (by simp))) rfl rfl ?_
                  rintro _ _ ⟨rfl, rfl⟩
                  refine l_as (l_conv rfl rfl rfl) rfl rfl (by first | exact as_u8 (by omega) (by omega) | exact as_u8m _) ?_
                  refine l_l rfl rfl rfl ?_
                  refine l_nil ?_
                  refine c_ret ?_
                  exact l_end0 (fun _ _ => rets_v rfl) ⟨rfl, congrArg _ (peek_line hu (by omega)).symm⟩
                · have h27n := by first | exact of_decide_eq_true h27 | exact of_decide_eq_false h27 | exact eq_of_beq h27 | exact ne_of_beq_false h27 | exact bne_t h27 | exact bne_f h27 | exact h27
                  refine c_skip ?_
                  refine c_seq ?_
                  refine c_region ?_
                  refine l_l rfl rfl rfl ?_
                  refine l_l rfl rfl rfl ?_
                  refine l_as (l_sub rfl rfl) rfl rfl (by first | exact as_i64 (by omega) (by omega) | rfl) ?_
                  refine l_l rfl rfl rfl ?_
                  refine l_l (light_fa rfl rfl) rfl rfl ?_
                  refine l_l (idx_arrayI rfl rfl rfl (by omega) (by omega)) rfl rfl ?_
                  refine l_x (x_load rfl rfl (at_old (get0 hr.r (cW_R hu (j := (a - 65344).toNat) (by omega))) (by simp))) rfl rfl ?_
                  rintro _ _ ⟨rfl, rfl⟩
                  refine l_l rfl rfl rfl ?_
                  refine l_nil ?_
                  refine c_ret ?_
                  exact l_end0 (fun _ _ => rets_v rfl) ⟨rfl, congrArg _ (peek_byte ⟨by omega, by omega⟩ (by omega) (by omega) (by omega)).symm⟩
    · have h19n := by first | exact of_decide_eq_true h19 | exact of_decide_eq_false h19 | exact eq_of_beq h19 | exact ne_of_beq_false h19 | exact bne_t h19 | exact bne_f h19 | exact h19
      refine l_p rfl rfl ?_
      refine l_p rfl rfl ?_
      refine l_l rfl rfl rfl ?_
      refine l_nil ?_
      refine c_false rfl ?_
      refine c_skip ?_
      refine c_seq ?_
      refine c_seq ?_
      refine c_region ?_
      refine l_l rfl rfl rfl ?_
      refine l_l rfl rfl rfl ?_
      refine l_b rfl rfl rfl (fun h28 => ?_) (fun h28 => ?_)
      · have h28n := by first | exact of_decide_eq_true h28 | exact of_decide_eq_false h28 | exact eq_of_beq h28 | exact ne_of_beq_false h28 | exact bne_t h28 | exact bne_f h28 | exact h28
        refine l_p rfl rfl ?_
        refine l_p rfl rfl ?_
        refine l_l rfl rfl rfl ?_
        refine l_l rfl rfl rfl ?_
        refine l_p rfl rfl ?_
        refine l_p rfl rfl ?_
        refine l_l rfl rfl rfl ?_
        refine l_nil ?_
        refine c_true rfl ?_
        refine c_seq ?_
        refine c_region ?_
        refine l_l rfl rfl rfl ?_
        refine l_nil ?_
        refine c_ret ?_
        exact l_end0 (fun _ _ => rets_v rfl) ⟨rfl, congrArg _ (by rw [peek_R ⟨by omega, by omega⟩, if_pos (numU_no (by omega))])⟩
      · have h28n := by first | exact of_decide_eq_true h28 | exact of_decide_eq_false h28 | exact eq_of_beq h28 | exact ne_of_beq_false h28 | exact bne_t h28 | exact bne_f h28 | exact h28
        refine l_l rfl rfl rfl ?_
        refine l_l rfl rfl rfl ?_
        refine l_l rfl rfl rfl ?_
        refine l_b rfl rfl rfl (fun h29 => ?_) (fun h29 => ?_)
        · have h29n := by first | exact of_decide_eq_true h29 | exact of_decide_eq_false h29 | exact eq_of_beq h29 | exact ne_of_beq_false h29 | exact bne_t h29 | exact bne_f h29 | exact h29
          refine l_p rfl rfl ?_
          refine l_p rfl rfl ?_
          refine l_l rfl rfl rfl ?_
          refine l_nil ?_
          refine c_true rfl ?_
          refine c_seq ?_
          refine c_region ?_
          refine l_l rfl rfl rfl ?_
          refine l_nil ?_
          refine c_ret ?_
          exact l_end0 (fun _ _ => rets_v rfl) ⟨rfl, congrArg _ (by rw [peek_R ⟨by omega, by omega⟩, if_pos (numU_no (by omega))])⟩
        · have h29n := by first | exact of_decide_eq_true h29 | exact of_decide_eq_false h29 | exact eq_of_beq h29 | exact ne_of_beq_false h29 | exact bne_t h29 | exact bne_f h29 | exact h29
          refine l_l rfl rfl rfl ?_
          refine l_l rfl rfl rfl ?_
          refine l_l rfl rfl rfl ?_
          refine l_nil ?_
          refine c_cond rfl (fun h30 => ?_) (fun h30 => ?_)
          · have h30n := by first | exact of_decide_eq_true h30 | exact of_decide_eq_false h30 | exact eq_of_beq h30 | exact ne_of_beq_false h30 | exact bne_t h30 | exact bne_f h30 | exact h30
            refine c_seq ?_
            refine c_region ?_
            refine l_l rfl rfl rfl ?_
            refine l_nil ?_
            refine c_ret ?_
            exact l_end0 (fun _ _ => rets_v rfl) ⟨rfl, congrArg _ (by rw [peek_R ⟨by omega, by omega⟩, if_pos (numU_no (by omega))])⟩
          · have h30n := by first | exact of_decide_eq_true h30 | exact of_decide_eq_false h30 | exact eq_of_beq h30 | exact ne_of_beq_false h30 | exact bne_t h30 | exact bne_f h30 | exact h30
            refine c_skip ?_
            refine c_seq ?_
            refine c_seq ?_
            refine c_region ?_
            refine l_l rfl rfl rfl ?_
            refine l_nil ?_
            refine c_block ?_
            refine c_seq ?_
            refine c_region ?_
            refine l_l rfl rfl rfl ?_
            refine l_l rfl rfl rfl ?_
            refine l_nil ?_
            refine c_cond rfl (fun h31 => ?_) (fun h31 => ?_)
            · have h31n := by first | exact of_decide_eq_true h31 | exact of_decide_eq_false h31 | exact eq_of_beq h31 | exact ne_of_beq_false h31 | exact bne_t h31 | exact bne_f h31 | exact h31
              refine c_seq ?_
              refine c_draw _ [7, 8] (.step true 0 (.step true 1 (.step true 2 (.step true 3 (.step true 4 (.step true 5 (.step true 6 (.step true 7 (.step false 8 (.step true 9 (.step true 10 .done))))))))))) rfl (by kernel_rfl) (by kernel_rfl) (fun _ h => h) ?_
              refine d_light rfl rfl rfl rfl rfl ?_
              refine d_light rfl rfl rfl rfl rfl ?_
              refine d_light rfl (light_fa rfl rfl) rfl rfl rfl ?_
              refine d_light rfl (by first | exact idx_array1 1 rfl rfl rfl rfl (by decide) | exact idx_slice1 1 rfl rfl rfl rfl (by decide) | exact idx_array 1 rfl rfl rfl rfl (by decide) | exact idx_slice 1 rfl rfl rfl rfl (by decide)) rfl rfl rfl ?_
              refine d_load rfl rfl rfl (s_old (get0 hr.r (cW_R hu (j := 1) (by decide))) (by simp)) rfl rfl ?_
              refine d_as rfl (l_conv rfl rfl rfl) rfl rfl rfl (by first | exact as_i64 (by omega) (by omega) | rfl) ?_
              refine d_as rfl (l_add rfl rfl) rfl rfl rfl (by first | exact as_i64 (by omega) (by omega) | rfl) ?_
              refine d_light rfl rfl rfl rfl rfl ?_
              refine d_x rfl (x_val call_37 rfl (fun w hw => rmode_fn b bv bs u hu w (hr.later hw))) rfl rfl (by intro _ _ _ hK x hx; obtain ⟨rfl, rfl⟩ := hK; repeat (first | exact hx | exact List.mem_append_left _ hx | refine List.mem_append_right _ ?_ | refine .tail _ ?_)) ?_
              rintro _ _ ⟨rfl, rfl⟩
              refine d_as rfl (l_add rfl rfl) rfl rfl rfl (by first | exact as_i64 (by omega) (by omega) | rfl) ?_
              refine d_light rfl rfl rfl rfl rfl ?_
              refine d_nil ?_
              refine c_seq ?_
              refine c_seq ?_
              refine c_draw _ [1, 7, 8, 9, 10, 11, 12] (.step true 0 (.step false 1 (.step true 2 (.step true 3 (.step true 4 (.step true 5 (.step true 6 (.step true 7 (.step true 8 (.step true 9 (.step true 10 (.step true 11 (.step true 12 (.step true 13 (.step true 14 .done))))))))))))))) rfl (by kernel_rfl) (by kernel_rfl) (fun _ h => h) ?_
              refine d_light rfl rfl rfl rfl rfl ?_
              refine d_x rfl (x_val call_48 rfl (fun w hw => on_fn b bv bs u hu w (hr.later hw))) rfl rfl (by intro _ _ _ hK x hx; obtain ⟨rfl, rfl⟩ := hK; repeat (first | exact hx | exact List.mem_append_left _ hx | refine List.mem_append_right _ ?_ | refine .tail _ ?_)) ?_
              rintro _ _ ⟨rfl, rfl⟩
              refine d_bool rfl rfl rfl rfl (fun h32 => ?_) (fun h32 => ?_)
              · have h32n := by first | exact of_decide_eq_true h32 | exact of_decide_eq_false h32 | exact eq_of_beq h32 | exact ne_of_beq_false h32 | exact bne_t h32 | exact bne_f h32 | exact h32
                refine d_light rfl rfl rfl rfl rfl ?_
                refine d_light rfl rfl rfl rfl rfl ?_
                refine d_light rfl (light_fa rfl rfl) rfl rfl rfl ?_
                refine d_load rfl rfl rfl (s_old (get0 hr.r (cW_line hu)) (by simp)) rfl rfl ?_
                refine d_light rfl rfl rfl rfl rfl ?_
                refine d_light rfl rfl rfl rfl rfl ?_
                refine d_light rfl (light_fa rfl rfl) rfl rfl rfl ?_
                refine d_light rfl (by first | exact idx_array1 5 rfl rfl rfl rfl (by decide) | exact idx_slice1 5 rfl rfl rfl rfl (by decide) | exact idx_array 5 rfl rfl rfl rfl (by decide) | exact idx_slice 5 rfl rfl rfl rfl (by decide)) rfl rfl rfl ?_
                refine d_load rfl rfl rfl (s_old (get0 hr.r (cW_R hu (j := 5) (by decide))) (by simp)) rfl rfl ?_
                refine d_as rfl (l_conv rfl rfl rfl) rfl rfl rfl (by first | exact as_i64 (by omega) (by omega) | rfl) ?_
                refine d_light rfl rfl rfl rfl rfl ?_
                refine d_light rfl rfl rfl rfl rfl ?_
                refine d_nil ?_
                refine c_cond rfl (fun h33 => ?_) (fun h33 => ?_)
                · have h33n := by first | exact of_decide_eq_true h33 | exact of_decide_eq_false h33 | exact eq_of_beq h33 | exact ne_of_beq_false h33 | exact bne_t h33 | exact bne_f h33 | exact h33
                  refine c_region ?_
                  refine l_l rfl rfl rfl ?_
                  refine l_as (l_add rfl rfl) rfl rfl (by first | exact as_i64 (by omega) (by omega) | rfl) ?_
                  refine l_l rfl rfl rfl ?_
                  refine l_nil ?_
                  refine c_seq ?_
                  refine c_region ?_
                  refine l_l rfl rfl rfl ?_
                  refine l_as (l_conv rfl rfl rfl) rfl rfl (by first | exact as_u8 (by omega) (by omega) | exact as_u8m _) ?_
                  refine l_l rfl rfl rfl ?_
                  refine l_nil ?_
                  refine c_ret ?_
                  exact l_end0 (fun _ _ => rets_v rfl) ⟨rfl, congrArg _ (peek_found hu (by omega) (by unfold foundU; simp_all)).symm⟩
                · have h33n := by first | exact of_decide_eq_true h33 | exact of_decide_eq_false h33 | exact eq_of_beq h33 | exact ne_of_beq_false h33 | exact bne_t h33 | exact bne_f h33 | exact h33
                  refine c_skip ?_
                  refine c_seq ?_
                  refine c_region ?_
                  refine l_l rfl rfl rfl ?_
                  refine l_as (l_conv rfl rfl rfl) rfl rfl (by first | exact as_u8 (by omega) (by omega) | exact as_u8m _) ?_
                  refine l_l rfl rfl rfl ?_
                  refine l_nil ?_
                  refine c_ret ?_
                  exact l_end0 (fun _ _ => rets_v rfl) ⟨rfl, congrArg _ (peek_not hu (by omega) (by unfold foundU; simp_all)).symm⟩
              · have h32n := by first | exact of_decide_eq_true h32 | exact of_decide_eq_false h32 | exact eq_of_beq h32 | exact ne_of_beq_false h32 | exact bne_t h32 | exact bne_f h32 | exact h32
                refine d_pass rfl rfl rfl ?_
                refine d_pass rfl rfl rfl ?_
                refine d_pass rfl rfl rfl ?_
                refine d_pass rfl rfl rfl ?_
                refine d_pass rfl rfl rfl ?_
                refine d_pass rfl rfl rfl ?_
                refine d_pass rfl rfl rfl ?_
                refine d_pass rfl rfl rfl ?_
                refine d_pass rfl rfl rfl ?_
                refine d_pass rfl rfl rfl ?_
                refine d_pass rfl rfl rfl ?_
                refine d_light rfl rfl rfl rfl rfl ?_
                refine d_nil ?_
                refine c_false rfl ?_
                refine c_skip ?_
                refine c_seq ?_
                refine c_region ?_
                refine l_l rfl rfl rfl ?_
                refine l_as (l_conv rfl rfl rfl) rfl rfl (by first | exact as_u8 (by omega) (by omega) | exact as_u8m _) ?_
                refine l_l rfl rfl rfl ?_
                refine l_nil ?_
                refine c_ret ?_
                exact l_end0 (fun _ _ => rets_v rfl) ⟨rfl, congrArg _ (peek_not hu (by omega) (by unfold foundU; simp_all)).symm⟩
            · have h31n := by first | exact of_decide_eq_true h31 | exact of_decide_eq_false h31 | exact eq_of_beq h31 | exact ne_of_beq_false h31 | exact bne_t h31 | exact bne_f h31 | exact h31
              refine c_seq ?_
              refine c_region ?_
              refine l_l rfl rfl rfl ?_
              refine l_l rfl rfl rfl ?_
              refine l_nil ?_
              refine c_cond rfl (fun h34 => ?_) (fun h34 => ?_)
              · have h34n := by first | exact of_decide_eq_true h34 | exact of_decide_eq_false h34 | exact eq_of_beq h34 | exact ne_of_beq_false h34 | exact bne_t h34 | exact bne_f h34 | exact h34
                refine c_seq ?_
                refine c_region ?_
                refine l_l rfl rfl rfl ?_
                refine l_l rfl rfl rfl ?_
                refine l_l (light_fa rfl rfl) rfl rfl ?_
                refine l_x (x_load rfl rfl (at_old (get0 hr.r (cW_line hu)) (by simp))) rfl rfl ?_
                rintro _ _ ⟨rfl, rfl⟩
                refine l_as (l_conv rfl rfl rfl) rfl rfl (by first | exact as_u8 (by omega) (by omega) | exact as_u8m _) ?_
                refine l_l rfl rfl rfl ?_
                refine l_nil ?_
                refine c_ret ?_
                exact l_end0 (fun _ _ => rets_v rfl) ⟨rfl, congrArg _ (peek_line hu (by omega)).symm⟩
              · have h34n := by first | exact of_decide_eq_true h34 | exact of_decide_eq_false h34 | exact eq_of_beq h34 | exact ne_of_beq_false h34 | exact bne_t h34 | exact bne_f h34 | exact h34
                refine c_skip ?_
                refine c_seq ?_
                refine c_region ?_
                refine l_l rfl rfl rfl ?_
                refine l_l rfl rfl rfl ?_
                refine l_as (l_sub rfl rfl) rfl rfl (by first | exact as_i64 (by omega) (by omega) | rfl) ?_
                refine l_l rfl rfl rfl ?_
                refine l_l (light_fa rfl rfl) rfl rfl ?_
                refine l_l (idx_arrayI rfl rfl rfl (by omega) (by omega)) rfl rfl ?_
                refine l_x (x_load rfl rfl (at_old (get0 hr.r (cW_R hu (j := (a - 65344).toNat) (by omega))) (by simp))) rfl rfl ?_
                rintro _ _ ⟨rfl, rfl⟩
                refine l_l rfl rfl rfl ?_
                refine l_nil ?_
                refine c_ret ?_
                exact l_end0 (fun _ _ => rets_v rfl) ⟨rfl, congrArg _ (peek_byte ⟨by omega, by omega⟩ (by omega) (by omega) (by omega)).symm⟩

theorem rread_fn (b bv bs : Nat) (u : PU) (hu : u.Wf) (w : World) (hr : RRow w b bv bs u) (a : Int) (ha : 0 ≤ a ∧ a < 65536) : Does Try.prog 39 [.pointer (some ⟨b, 0, none⟩), .int .u16 a] w [] (fun v H => H = [] ∧ v = .int .u8 (readU u a)) := by
  refine does_of Try.func39 rfl rfl rfl (St.refl w) ?_
  refine c_seq ?_
  refine c_region ?_
  refine l_l rfl rfl rfl ?_
  refine l_nil ?_
  refine c_seq ?_
  refine c_seq ?_
  refine c_region ?_
  refine l_l rfl rfl rfl ?_
  refine l_l rfl rfl rfl ?_
  refine l_x (x_val call_53 rfl (fun w hw => shut_fn b bv bs u hu w (hr.later hw) _ ha)) rfl rfl ?_
  rintro _ _ ⟨rfl, rfl⟩
  refine l_nil ?_
  refine c_cond rfl (fun h1 => ?_) (fun h1 => ?_)
  · have h1n := by first | exact of_decide_eq_true h1 | exact of_decide_eq_false h1 | exact eq_of_beq h1 | exact ne_of_beq_false h1 | exact bne_t h1 | exact bne_f h1 | exact h1
    refine c_seq ?_
    refine c_region ?_
    refine l_l rfl rfl rfl ?_
    refine l_nil ?_
    refine c_ret ?_
    exact l_end0 (fun _ _ => rets_v rfl) ⟨rfl, congrArg _ (read_yes h1).symm⟩
  · have h1n := by first | exact of_decide_eq_true h1 | exact of_decide_eq_false h1 | exact eq_of_beq h1 | exact ne_of_beq_false h1 | exact bne_t h1 | exact bne_f h1 | exact h1
    refine c_skip ?_
    refine c_seq ?_
    refine c_region ?_
    refine l_l rfl rfl rfl ?_
    refine l_l rfl rfl rfl ?_
    refine l_x (x_val call_40 rfl (fun w hw => rpeek_fn b bv bs u hu w (hr.later hw) _ ha)) rfl rfl ?_
    rintro _ _ ⟨rfl, rfl⟩
    refine l_l rfl rfl rfl ?_
    refine l_nil ?_
    refine c_ret ?_
    exact l_end0 (fun _ _ => rets_v rfl) ⟨rfl, congrArg _ (read_open h1).symm⟩

end Go.Proofs.Ytjceoaomkbabmaa
