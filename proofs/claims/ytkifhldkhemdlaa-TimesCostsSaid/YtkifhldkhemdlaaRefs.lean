/- The contracts of the small functions of the reference of times. -/
import Derived.Test.YtkifhldkhemdlaaRef
import Derived.Test.YtkifhldkhemdlaaProg
import Derived.Test.YtkifhldkhemdlaaCalls
namespace Go.Proofs.Ytkifhldkhemdlaa
open Go Go.VV Go.Proofs
set_option linter.unusedSimpArgs false
set_option linter.unusedVariables false
theorem without_fn (a : Option Addr) (c : Nat) (ws : List Mark) (k : Nat) (hk : k < ws.length) (hc : ws.length ≤ c) (hlen : ws.length < 1000000000) (w : World) (hE : Els w cm a ws) :
    Does Try.prog 24 [.slice a ws.length c, .int .i64 k] w [] (fun v H => Vec 60 2 v (ws.eraseIdx k).length (flat cm (ws.eraseIdx k)) H) := by
  obtain ⟨br, off, rfl, hr⟩ := hE.row hk
  refine does_of Try.func24 rfl rfl rfl (St.refl w) ?_
  refine c_seq ?_
  refine c_region ?_
  refine l_l rfl rfl rfl ?_
  refine l_nil ?_
  refine c_seq ?_
  refine c_region ?_
  refine l_l rfl rfl rfl ?_
  refine l_nil ?_
  refine c_seq ?_
  refine c_region ?_
  refine l_l rfl rfl rfl ?_
  refine l_l rfl rfl rfl ?_
  refine l_l rfl rfl rfl ?_
  refine l_as (v := (.slice (some ⟨br, off, none⟩) k c)) (cut_slice (s := 2) 0 k rfl rfl rfl rfl rfl rfl (by omega) (by omega)) rfl rfl (cut0' _ _ _ _) ?_
  refine l_x (x_append (A := []) (G := []) (R := []) (v := .slice none 0 0) (n := 0) (xs := []) (m := k) (T := 60) (s := 2) (by_ := 32) (ys := flat cm (ws.take k)) rfl rfl rfl rfl .nil (fun w hw => .row _ _ _ _ _ (by rw [flat_len cm_len, List.length_take]; congr 1; omega) (row_take (row_old hr (by simp) w hw) (by omega))) (ones_flat _) (by omega) (by omega)) rfl rfl ?_
  rintro v10 _ ⟨G10, hV10, hn10, rfl⟩
  refine l_as' (v := v10) rfl rfl rfl ?_
  refine l_nil ?_
  refine c_seq ?_
  refine c_region ?_
  refine l_mv (v := v10) rfl rfl rfl ?_
  refine l_l rfl rfl rfl ?_
  refine l_l rfl rfl rfl ?_
  refine l_as (v := (.int .i64 ((k + 1 : Nat) : Int))) rfl rfl rfl (congrArg _ (succ_law (by omega))) ?_
  refine l_l (cut_slice (s := 2) (k + 1) ws.length rfl rfl rfl rfl rfl rfl (by omega) hc) rfl rfl ?_
  refine l_x (x_append (A := []) (G := G10) (R := []) (v := v10) (n := 0 + k) (xs := [] ++ flat cm (ws.take k)) (m := ws.length - (k + 1)) (T := 60) (s := 2) (by_ := 32) (ys := flat cm (ws.drop (k + 1))) rfl rfl rfl rfl hV10 (fun w hw => .row _ _ _ _ _ (by rw [flat_len cm_len, List.length_drop]) (row_drop (row_old hr (by simp) w hw) (by omega) hc)) (ones_flat _) (by omega) (by omega)) rfl rfl ?_
  rintro v16 _ ⟨G16, hV16, hn16, rfl⟩
  refine l_as' (v := v16) rfl rfl rfl ?_
  refine l_nil ?_
  refine c_ret ?_
  rw [erase_len hk]
  rw [List.nil_append, erase_flat _ hk, show 0 + k + (ws.length - (k + 1)) = ws.length - 1 by omega] at hV16
  exact l_end (fun _ _ => rets_one rfl) (List.sublist_append_left _ _) hV16

theorem rbefore_fn (b : Nat) (cap : Int) (lack : Bool) (ws : List Mark) (hR : Rise ws) (hlen : ws.length < 1000000000) (x : Int) (w : World) (hL : RLineW w b cap lack ws) :
    Does Try.prog 25 [.pointer (some ⟨b, 0, none⟩), .int .u64 x] w [] (fun v H => H = [] ∧ v = .int .i64 (bef ws x)) := by
  obtain ⟨⟨a, c, q0, qc, hE⟩, q1, q2⟩ := hL
  refine does_of Try.func25 rfl rfl rfl (St.refl w) ?_
  refine c_seq ?_
  refine c_region ?_
  refine l_l rfl rfl rfl ?_
  refine l_nil ?_
  refine c_seq ?_
  refine c_region ?_
  refine l_l rfl rfl rfl ?_
  refine l_nil ?_
  refine c_seq ?_
  refine c_seq ?_
  refine c_region ?_
  refine l_l rfl rfl rfl ?_
  refine l_l rfl rfl rfl ?_
  refine l_l (light_fa rfl rfl) rfl rfl ?_
  refine l_x (x_load rfl rfl (at_old q0 (by simp))) rfl rfl ?_
  rintro _ _ ⟨rfl, rfl⟩
  refine l_l (by first | exact light_len rfl rfl | exact light_lens rfl rfl | rfl) rfl rfl ?_
  refine l_l rfl rfl rfl ?_
  refine l_nil ?_
  refine c_block ?_
  refine c_loopk (σ := Nat) [5, 6, 12, 13, 14, 15, 16, 17, 18, 19, 20, 21, 22, 23, 24, 25, 26] (fun k => [(5, .int .i64 (bef (ws.take k) x)), (12, .int .i64 k)]) (fun k => k ≤ ws.length) (fun k => ws.length - k) 0 ?_ ?_ ?_
  · exact Nat.zero_le _
  · exact .cons rfl (.cons rfl .nil)
  · intro k y hk
    refine c_seq ?_
    refine c_region ?_
    refine l_l rfl rfl rfl ?_
    refine l_nil ?_
    refine c_seq ?_
    refine c_cond rfl (fun h1 => ?_) (fun h1 => ?_)
    · refine c_skip ?_
      refine c_seq ?_
      refine c_block ?_
      refine c_seq ?_
      refine c_region ?_
      refine l_l rfl rfl rfl ?_
      refine l_l rfl rfl rfl ?_
      refine l_nil ?_
      refine c_seq ?_
      obtain ⟨br, off, rfl, hr⟩ := hE (by (try simp only [decide_eq_true_eq, decide_eq_false_iff_not, beq_iff_eq, beq_eq_false_iff_ne, bne_iff_ne, bne_eq_false_iff_eq, ne_eq] at *); omega)
      refine c_region ?_
      refine l_l rfl rfl rfl ?_
      refine l_l rfl rfl rfl ?_
      refine l_l (light_fa rfl rfl) rfl rfl ?_
      refine l_x (x_load rfl rfl (at_old q0 (by simp))) rfl rfl ?_
      rintro _ _ ⟨rfl, rfl⟩
      refine l_l rfl rfl rfl ?_
      refine l_l (idx_slice k rfl rfl rfl rfl (by (try simp only [decide_eq_true_eq, decide_eq_false_iff_not, beq_iff_eq, beq_eq_false_iff_ne, bne_iff_ne, bne_eq_false_iff_eq, ne_eq] at *); omega)) rfl rfl ?_
      refine l_l (light_fa rfl rfl) rfl rfl ?_
      refine l_x (x_load rfl rfl (at_old (mark_t hr (by (try simp only [decide_eq_true_eq, decide_eq_false_iff_not, beq_iff_eq, beq_eq_false_iff_ne, bne_iff_ne, bne_eq_false_iff_eq, ne_eq] at *); omega)) (by simp))) rfl rfl ?_
      rintro _ _ ⟨rfl, rfl⟩
      refine l_l rfl rfl rfl ?_
      refine l_l rfl rfl rfl ?_
      refine l_nil ?_
      refine c_cond rfl (fun h2 => ?_) (fun h2 => ?_)
      · refine c_region ?_
        refine l_l rfl rfl rfl ?_
        refine l_l rfl rfl rfl ?_
        refine l_nil ?_
        refine c_region ?_
        refine l_l rfl rfl rfl ?_
        refine l_l rfl rfl rfl ?_
        refine l_nil ?_
        exact ⟨k + 1, by (try simp only [decide_eq_true_eq, decide_eq_false_iff_not, beq_iff_eq, beq_eq_false_iff_ne, bne_iff_ne, bne_eq_false_iff_eq, ne_eq] at *); omega, by (try simp only [decide_eq_true_eq, decide_eq_false_iff_not, beq_iff_eq, beq_eq_false_iff_ne, bne_iff_ne, bne_eq_false_iff_eq, ne_eq] at *); omega, .cons (congrArg _ (befr_yes hR (by (try simp only [decide_eq_true_eq, decide_eq_false_iff_not, beq_iff_eq, beq_eq_false_iff_ne, bne_iff_ne, bne_eq_false_iff_eq, ne_eq] at *); omega) (by (try simp only [decide_eq_true_eq, decide_eq_false_iff_not, beq_iff_eq, beq_eq_false_iff_ne, bne_iff_ne, bne_eq_false_iff_eq, ne_eq] at *); omega)).symm) (.cons (congrArg _ (succ_law (by omega))) .nil), (by repeat (first | exact Agree.refl _ _ | exact Agree.mix rfl | refine Agree.put rfl ?_ | refine Agree.keep rfl ?_)), fun _ h => h⟩
      · refine c_skip ?_
        refine c_region ?_
        refine l_l rfl rfl rfl ?_
        refine l_l rfl rfl rfl ?_
        refine l_nil ?_
        exact ⟨k + 1, by (try simp only [decide_eq_true_eq, decide_eq_false_iff_not, beq_iff_eq, beq_eq_false_iff_ne, bne_iff_ne, bne_eq_false_iff_eq, ne_eq] at *); omega, by (try simp only [decide_eq_true_eq, decide_eq_false_iff_not, beq_iff_eq, beq_eq_false_iff_ne, bne_iff_ne, bne_eq_false_iff_eq, ne_eq] at *); omega, .cons (congrArg _ (befr_no (by (try simp only [decide_eq_true_eq, decide_eq_false_iff_not, beq_iff_eq, beq_eq_false_iff_ne, bne_iff_ne, bne_eq_false_iff_eq, ne_eq] at *); omega) (by (try simp only [decide_eq_true_eq, decide_eq_false_iff_not, beq_iff_eq, beq_eq_false_iff_ne, bne_iff_ne, bne_eq_false_iff_eq, ne_eq] at *); omega)).symm) (.cons (congrArg _ (succ_law (by omega))) .nil), (by repeat (first | exact Agree.refl _ _ | exact Agree.mix rfl | refine Agree.put rfl ?_ | refine Agree.keep rfl ?_)), fun _ h => h⟩
    · refine c_exit rfl ?_
      refine c_seq ?_
      refine c_region ?_
      refine l_l rfl rfl rfl ?_
      refine l_l rfl rfl rfl ?_
      refine l_nil ?_
      refine c_ret ?_
      obtain rfl : k = ws.length := by (try simp only [decide_eq_true_eq, decide_eq_false_iff_not, beq_iff_eq, beq_eq_false_iff_ne, bne_iff_ne, bne_eq_false_iff_eq, ne_eq] at *); omega
      exact l_end0 (fun _ _ => rets_v rfl) ⟨rfl, by rw [List.take_length]⟩

end Go.Proofs.Ytkifhldkhemdlaa
