/- The contract of the law of a nil line. -/
import Derived.Test.YtkifhldkhemdlaaAwake
import Derived.Test.YtkifhldkhemdlaaCalls
namespace Go.Proofs.Ytkifhldkhemdlaa
open Go Go.VV Go.Proofs
set_option linter.unusedSimpArgs false
set_option linter.unusedVariables false
theorem before_nil (x : Int) (w : World) : Does Try.prog 23 [.pointer none, .int .u64 x] w [] (fun v H => H = [] ∧ v = .int .i64 (-1)) := by
  refine does_of Try.func23 rfl rfl rfl (St.refl w) ?_
  refine c_seq ?_
  refine c_region ?_
  refine l_l rfl rfl rfl ?_
  refine l_nil ?_
  refine c_seq ?_
  refine c_seq ?_
  refine c_region ?_
  refine l_l rfl rfl rfl ?_
  refine l_l rfl rfl rfl ?_
  refine l_nil ?_
  refine c_true rfl ?_
  refine c_seq ?_
  refine c_region ?_
  refine l_l rfl rfl rfl ?_
  refine l_nil ?_
  refine c_ret ?_
  exact l_end0 (fun _ _ => by first | exact rets_v rfl | exact rets_v2 rfl rfl | exact rets_v3 rfl rfl rfl) ⟨rfl, rfl⟩

theorem last_nil (x : Int) (w : World) : Does Try.prog 19 [.pointer none] w [] (fun v H => H = [] ∧ v = .tuple #[.int .u64 0, .bool false]) := by
  refine does_of Try.func19 rfl rfl rfl (St.refl w) ?_
  refine c_seq ?_
  refine c_region ?_
  refine l_l rfl rfl rfl ?_
  refine l_l rfl rfl rfl ?_
  refine l_nil ?_
  refine c_seq ?_
  refine c_seq ?_
  refine c_region ?_
  refine l_l rfl rfl rfl ?_
  refine l_l rfl rfl rfl ?_
  refine l_l rfl rfl rfl ?_
  refine l_p rfl rfl ?_
  refine l_p rfl rfl ?_
  refine l_p rfl rfl ?_
  refine l_p rfl rfl ?_
  refine l_p rfl rfl ?_
  refine l_p rfl rfl ?_
  refine l_l rfl rfl rfl ?_
  refine l_nil ?_
  refine c_true rfl ?_
  refine c_seq ?_
  refine c_region ?_
  refine l_l rfl rfl rfl ?_
  refine l_l rfl rfl rfl ?_
  refine l_nil ?_
  refine c_ret ?_
  exact l_end0 (fun _ _ => by first | exact rets_v rfl | exact rets_v2 rfl rfl | exact rets_v3 rfl rfl rfl) ⟨rfl, rfl⟩

theorem marks_nil (x : Int) (w : World) : Does Try.prog 14 [.pointer none] w [] (fun v H => H = [] ∧ v = .slice none 0 0) := by
  refine does_of Try.func14 rfl rfl rfl (St.refl w) ?_
  refine c_seq ?_
  refine c_region ?_
  refine l_l rfl rfl rfl ?_
  refine l_nil ?_
  refine c_seq ?_
  refine c_seq ?_
  refine c_region ?_
  refine l_l rfl rfl rfl ?_
  refine l_l rfl rfl rfl ?_
  refine l_nil ?_
  refine c_true rfl ?_
  refine c_seq ?_
  refine c_region ?_
  refine l_l rfl rfl rfl ?_
  refine l_nil ?_
  refine c_ret ?_
  exact l_end0 (fun _ _ => by first | exact rets_v rfl | exact rets_v2 rfl rfl | exact rets_v3 rfl rfl rfl) ⟨rfl, rfl⟩

theorem Before_nil (x : Int) (w : World) : Does Try.prog 12 [.pointer none, .int .u64 x] w [] (fun v H => H = [] ∧ v = .tuple #[.int .u64 0, .slice none 0 0, .bool false]) := by
  refine does_of Try.func12 rfl rfl rfl (St.refl w) ?_
  refine c_seq ?_
  refine c_region ?_
  refine l_l rfl rfl rfl ?_
  refine l_l rfl rfl rfl ?_
  refine l_l rfl rfl rfl ?_
  refine l_nil ?_
  refine c_seq ?_
  refine c_region ?_
  refine l_l rfl rfl rfl ?_
  refine l_l rfl rfl rfl ?_
  refine l_x (x_val call_23 rfl (fun w hw => before_nil x w)) rfl rfl ?_
  rintro _ _ ⟨rfl, rfl⟩
  refine l_l rfl rfl rfl ?_
  refine l_nil ?_
  refine c_seq ?_
  refine c_seq ?_
  refine c_region ?_
  refine l_l rfl rfl rfl ?_
  refine l_sure true rfl rfl rfl rfl ?_
  refine l_nil ?_
  refine c_true rfl ?_
  refine c_seq ?_
  refine c_region ?_
  refine l_l rfl rfl rfl ?_
  refine l_l rfl rfl rfl ?_
  refine l_l rfl rfl rfl ?_
  refine l_nil ?_
  refine c_ret ?_
  exact l_end0 (fun _ _ => by first | exact rets_v rfl | exact rets_v2 rfl rfl | exact rets_v3 rfl rfl rfl) ⟨rfl, rfl⟩

theorem cost_nil (x : Int) (w : World) : Does Try.prog 18 [.pointer none, .int .u64 x] w [] (fun v H => H = [] ∧ v = .tuple #[.int .u64 0, .bool false]) := by
  refine does_of Try.func18 rfl rfl rfl (St.refl w) ?_
  refine c_seq ?_
  refine c_region ?_
  refine l_l rfl rfl rfl ?_
  refine l_l rfl rfl rfl ?_
  refine l_nil ?_
  refine c_seq ?_
  refine c_region ?_
  refine l_l rfl rfl rfl ?_
  refine l_l rfl rfl rfl ?_
  refine l_x (x_val call_23 rfl (fun w hw => before_nil x w)) rfl rfl ?_
  rintro _ _ ⟨rfl, rfl⟩
  refine l_l rfl rfl rfl ?_
  refine l_nil ?_
  refine c_seq ?_
  refine c_seq ?_
  refine c_region ?_
  refine l_l rfl rfl rfl ?_
  refine l_sure true rfl rfl rfl rfl ?_
  refine l_nil ?_
  refine c_true rfl ?_
  refine c_seq ?_
  refine c_region ?_
  refine l_l rfl rfl rfl ?_
  refine l_l rfl rfl rfl ?_
  refine l_nil ?_
  refine c_ret ?_
  exact l_end0 (fun _ _ => by first | exact rets_v rfl | exact rets_v2 rfl rfl | exact rets_v3 rfl rfl rfl) ⟨rfl, rfl⟩

theorem add_nilp (x : Int) (w : World) : Does Try.prog 11 [.pointer none, .int .u64 x, .slice none 0 0] w [] (fun v H => H = [] ∧ v = .int .i64 1) := by
  refine does_of Try.func11 rfl rfl rfl (St.refl w) ?_
  refine c_seq ?_
  refine c_region ?_
  refine l_l rfl rfl rfl ?_
  refine l_nil ?_
  refine c_seq ?_
  refine c_seq ?_
  refine c_region ?_
  refine l_l rfl rfl rfl ?_
  refine l_l rfl rfl rfl ?_
  refine l_l rfl rfl rfl ?_
  refine l_p rfl rfl ?_
  refine l_p rfl rfl ?_
  refine l_l rfl rfl rfl ?_
  refine l_nil ?_
  refine c_true rfl ?_
  refine c_seq ?_
  refine c_region ?_
  refine l_l rfl rfl rfl ?_
  refine l_nil ?_
  refine c_ret ?_
  exact l_end0 (fun _ _ => by first | exact rets_v rfl | exact rets_v2 rfl rfl | exact rets_v3 rfl rfl rfl) ⟨rfl, rfl⟩

set_option maxHeartbeats 4000000 in
theorem nil_fn (x : Int) (hx : 0 ≤ x) (n : Int) (w : World) :
    Does Try.prog 8 [.int .u64 x, .int .i64 n] w [] (fun v H => H = [] ∧ v = .bool true) := by
  refine does_of Try.func8 rfl rfl rfl (St.refl w) ?_
  refine c_seq ?_
  refine c_region ?_
  refine l_l rfl rfl rfl ?_
  refine l_nil ?_
  refine c_seq ?_
  refine c_seq ?_
  refine c_region ?_
  refine l_x (x_val call_9 rfl (fun w hw => awake_fn w)) rfl rfl ?_
  rintro _ _ ⟨rfl, rfl⟩
  refine l_sure false rfl rfl rfl rfl ?_
  refine l_nil ?_
  refine c_false rfl ?_
  refine c_skip ?_
  refine c_seq ?_
  refine c_region ?_
  refine l_l rfl rfl rfl ?_
  refine l_nil ?_
  refine c_seq ?_
  refine c_region ?_
  refine l_l rfl rfl rfl ?_
  refine l_l rfl rfl rfl ?_
  refine l_x (x_val call_12 rfl (fun w hw => Before_nil x w)) rfl rfl ?_
  rintro _ _ ⟨rfl, rfl⟩
  refine l_l rfl rfl rfl ?_
  refine l_l rfl rfl rfl ?_
  refine l_l rfl rfl rfl ?_
  refine l_l rfl rfl rfl ?_
  refine l_l rfl rfl rfl ?_
  refine l_l rfl rfl rfl ?_
  refine l_l rfl rfl rfl ?_
  refine l_nil ?_
  refine c_seq ?_
  refine c_region ?_
  refine l_l rfl rfl rfl ?_
  refine l_x (x_val call_19 rfl (fun w hw => last_nil x w)) rfl rfl ?_
  rintro _ _ ⟨rfl, rfl⟩
  refine l_l rfl rfl rfl ?_
  refine l_l rfl rfl rfl ?_
  refine l_l rfl rfl rfl ?_
  refine l_l rfl rfl rfl ?_
  refine l_l rfl rfl rfl ?_
  refine l_nil ?_
  refine c_seq ?_
  refine c_region ?_
  refine l_l rfl rfl rfl ?_
  refine l_l rfl rfl rfl ?_
  refine l_x (x_val call_18 rfl (fun w hw => cost_nil x w)) rfl rfl ?_
  rintro _ _ ⟨rfl, rfl⟩
  refine l_l rfl rfl rfl ?_
  refine l_l rfl rfl rfl ?_
  refine l_l rfl rfl rfl ?_
  refine l_l rfl rfl rfl ?_
  refine l_l rfl rfl rfl ?_
  refine l_nil ?_
  refine c_seq ?_
  refine c_region ?_
  refine l_l rfl rfl rfl ?_
  refine l_x (x_call call_10 rfl (fun w hw => new_fn n w)) rfl rfl ?_
  rintro _ _ ⟨G39, ⟨bl, rfl, rfl⟩, rfl⟩
  refine l_l rfl rfl rfl ?_
  refine l_nil ?_
  refine c_seq ?_
  by_cases h0 : x = 0
  · refine c_region ?_
    subst h0
    refine l_l rfl rfl rfl ?_
    refine l_l rfl rfl rfl ?_
    refine l_x (x_callF (A := [(bl, _)]) (G := []) _ call_11 rfl (fun _ hb => mem_fst hb) (fun w hw => add_nil (cap_ok n) (LJ.start bl _) (by omega) (t' := 0) ⟨fun _ => rfl, fun h => (by omega)⟩ hw)) rfl rfl ?_
    rintro _ _ ⟨_, ⟨rfl, mk1, G1, D1, e1, f1, rfl, hJ1⟩, rfl⟩
    refine l_heap (H' := G1 ++ (D1 ++ [])) (fun _ h => by rw [List.append_assoc] at h; exact h) ?_
    have hm1 : addM (max 2 (min n 256)).toNat [] mk1 = [mk1] := addM_one (by omega) mk1
    rw [hm1] at hJ1
    refine l_l rfl rfl rfl ?_
    refine l_nil ?_
    refine c_seq ?_
    refine c_region ?_
    refine l_l rfl rfl rfl ?_
    refine l_l rfl rfl rfl ?_
    refine l_x (x_val call_18 rfl (fun w hw => cost_fn bl _ [mk1] hJ1.rise (by simp) 0 (by omega) w (hJ1.line.lineW hw (fun x hx => List.mem_append_left _ hx)))) rfl rfl ?_
    rintro _ _ ⟨rfl, rfl⟩
    rw [bef_one (by have := (hJ1.more (by omega)).2.1; simpa [tm] using this) (by omega)]
    refine l_l rfl rfl rfl ?_
    refine l_l rfl rfl rfl ?_
    refine l_l rfl rfl rfl ?_
    refine l_l rfl rfl rfl ?_
    refine l_l rfl rfl rfl ?_
    refine l_nil ?_
    refine c_seq ?_
    refine c_region ?_
    refine l_l rfl rfl rfl ?_
    refine l_x (x_callF (A := G1) (G := D1 ++ []) _ call_11 rfl (fun _ hb => mem_fst hb) (fun w hw => add_late (cap_ok n) hJ1 (by omega) (t' := 0) (by omega) (by omega) (by omega) hw)) rfl rfl ?_
    rintro _ _ ⟨H9, ⟨rfl, hH9⟩, rfl⟩
    rw [hH9]
    refine l_nil ?_
    refine c_seq ?_
    by_cases h3 : 4611686018427387904 < (0 : Int)
    · refine c_region ?_
      refine l_l rfl rfl rfl ?_
      refine l_l rfl rfl rfl ?_
      refine l_l (light_max rfl rfl) rfl rfl ?_
      refine l_x (x_callF (A := G1) (G := D1 ++ []) _ call_11 rfl (fun _ hb => mem_fst hb) (fun w hw => add_no bl (max 2 (min n 256)) (cap_ok n) [mk1] hJ1.rise (by simp) (max 0 1) (by omega) none 0 [] (by simp) _ w hJ1.line (St.lend hw) (.inl ⟨rfl, rfl⟩) 1 (addErr_far (by omega)) (by decide))) rfl rfl ?_
      rintro _ _ ⟨_, ⟨rfl, rfl⟩, rfl⟩
      refine l_l rfl rfl rfl ?_
      refine l_nil ?_
      refine c_seq ?_
      refine c_region ?_
      refine l_l rfl rfl rfl ?_
      refine l_x (x_val call_11 rfl (fun w hw => add_nilp 0 w)) rfl rfl ?_
      rintro _ _ ⟨rfl, rfl⟩
      refine l_sure true rfl rfl rfl rfl ?_
      refine l_l rfl rfl rfl ?_
      refine l_l rfl rfl rfl ?_
      refine l_l (by first | exact light_len rfl rfl | exact light_lens rfl rfl | rfl) rfl rfl ?_
      refine l_sure true rfl rfl rfl rfl ?_
      refine l_l rfl rfl rfl ?_
      refine l_l rfl rfl rfl ?_
      refine l_l rfl rfl rfl ?_
      refine l_sure true rfl rfl rfl rfl ?_
      refine l_l rfl rfl rfl ?_
      refine l_l rfl rfl rfl ?_
      refine l_l rfl rfl rfl ?_
      refine l_sure true rfl rfl rfl rfl ?_
      refine l_l rfl rfl rfl ?_
      refine l_l rfl rfl rfl ?_
      refine l_l rfl rfl rfl ?_
      refine l_sure true rfl rfl rfl rfl ?_
      refine l_l rfl rfl rfl ?_
      refine l_l rfl rfl rfl ?_
      refine l_l rfl rfl rfl ?_
      refine l_x (x_val call_14 rfl (fun w hw => marks_nil 0 w)) rfl rfl ?_
      rintro _ _ ⟨rfl, rfl⟩
      refine l_l (by first | exact light_len rfl rfl | exact light_lens rfl rfl | rfl) rfl rfl ?_
      refine l_sure true rfl rfl rfl rfl ?_
      refine l_l rfl rfl rfl ?_
      refine l_l rfl rfl rfl ?_
      refine l_l rfl rfl rfl ?_
      refine l_l rfl rfl rfl ?_
      refine l_l rfl rfl rfl ?_
      refine l_l rfl rfl rfl ?_
      refine l_sure true (light_eqb rfl rfl rfl) rfl rfl rfl ?_
      refine l_l rfl rfl rfl ?_
      refine l_l rfl rfl rfl ?_
      refine l_l rfl rfl rfl ?_
      refine l_l rfl rfl rfl ?_
      refine l_l rfl rfl rfl ?_
      refine l_sure true (light_eqb rfl rfl rfl) rfl rfl rfl ?_
      refine l_l rfl rfl rfl ?_
      refine l_l rfl rfl rfl ?_
      refine l_l rfl rfl rfl ?_
      refine l_l rfl rfl rfl ?_
      refine l_l rfl rfl rfl ?_
      refine l_l rfl rfl rfl ?_
      refine l_sure true (light_eqb rfl rfl rfl) rfl rfl (by simp; try omega) ?_
      refine l_l rfl rfl rfl ?_
      refine l_l rfl rfl rfl ?_
      refine l_nil ?_
      refine c_ret ?_
      exact l_end0 (fun _ _ => rets_v rfl) ⟨rfl, rfl⟩
    · refine c_region ?_
      refine l_l rfl rfl rfl ?_
      refine l_l rfl rfl rfl ?_
      refine l_l (light_max rfl rfl) rfl rfl ?_
      refine l_x (x_callF (A := G1) (G := D1 ++ []) _ call_11 rfl (fun _ hb => mem_fst hb) (fun w hw => add_ok bl (max 2 (min n 256)) (cap_ok n) [mk1] hJ1.rise (by simp) (max 0 1) (by omega) none 0 [] (by simp) _ w hJ1.line (St.lend hw) (.inl ⟨rfl, rfl⟩) (addErr_ok (by omega) (by simp) (fun _ => by have := hJ1.hi; have := (hJ1.more (by omega)).2.2; omega)))) rfl rfl ?_
      rintro _ _ ⟨_, ⟨rfl, mk2, G2, D2, e2, f2, g2, rfl, hL2, hB2⟩, rfl⟩
      refine l_l rfl rfl rfl ?_
      refine l_nil ?_
      refine c_seq ?_
      refine c_region ?_
      refine l_l rfl rfl rfl ?_
      refine l_x (x_val call_11 rfl (fun w hw => add_nilp 0 w)) rfl rfl ?_
      rintro _ _ ⟨rfl, rfl⟩
      refine l_sure true rfl rfl rfl rfl ?_
      refine l_l rfl rfl rfl ?_
      refine l_l rfl rfl rfl ?_
      refine l_l (by first | exact light_len rfl rfl | exact light_lens rfl rfl | rfl) rfl rfl ?_
      refine l_sure true rfl rfl rfl rfl ?_
      refine l_l rfl rfl rfl ?_
      refine l_l rfl rfl rfl ?_
      refine l_l rfl rfl rfl ?_
      refine l_sure true rfl rfl rfl rfl ?_
      refine l_l rfl rfl rfl ?_
      refine l_l rfl rfl rfl ?_
      refine l_l rfl rfl rfl ?_
      refine l_sure true rfl rfl rfl rfl ?_
      refine l_l rfl rfl rfl ?_
      refine l_l rfl rfl rfl ?_
      refine l_l rfl rfl rfl ?_
      refine l_sure true rfl rfl rfl rfl ?_
      refine l_l rfl rfl rfl ?_
      refine l_l rfl rfl rfl ?_
      refine l_l rfl rfl rfl ?_
      refine l_x (x_val call_14 rfl (fun w hw => marks_nil 0 w)) rfl rfl ?_
      rintro _ _ ⟨rfl, rfl⟩
      refine l_l (by first | exact light_len rfl rfl | exact light_lens rfl rfl | rfl) rfl rfl ?_
      refine l_sure true rfl rfl rfl rfl ?_
      refine l_l rfl rfl rfl ?_
      refine l_l rfl rfl rfl ?_
      refine l_l rfl rfl rfl ?_
      refine l_l rfl rfl rfl ?_
      refine l_l rfl rfl rfl ?_
      refine l_l rfl rfl rfl ?_
      refine l_sure true (light_eqb rfl rfl rfl) rfl rfl rfl ?_
      refine l_l rfl rfl rfl ?_
      refine l_l rfl rfl rfl ?_
      refine l_l rfl rfl rfl ?_
      refine l_l rfl rfl rfl ?_
      refine l_l rfl rfl rfl ?_
      refine l_sure true (light_eqb rfl rfl rfl) rfl rfl rfl ?_
      refine l_l rfl rfl rfl ?_
      refine l_l rfl rfl rfl ?_
      refine l_l rfl rfl rfl ?_
      refine l_l rfl rfl rfl ?_
      refine l_l rfl rfl rfl ?_
      refine l_l rfl rfl rfl ?_
      refine l_sure true (light_eqb rfl rfl rfl) rfl rfl (by simp; try omega) ?_
      refine l_l rfl rfl rfl ?_
      refine l_l rfl rfl rfl ?_
      refine l_nil ?_
      refine c_ret ?_
      exact l_end0 (fun _ _ => rets_v rfl) ⟨rfl, rfl⟩
  · refine c_region ?_
    refine l_l rfl rfl rfl ?_
    refine l_l rfl rfl rfl ?_
    refine l_x (x_callF (A := [(bl, _)]) (G := []) _ call_11 rfl (fun _ hb => mem_fst hb) (fun w hw => add_no bl (max 2 (min n 256)) (cap_ok n) [] Rise.nil (by simp) x hx none 0 [] (by simp) _ w (LJ.start bl _).line (St.lend hw) (.inl ⟨rfl, rfl⟩) 1 (by simp [addErr, h0]) (by decide))) rfl rfl ?_
    rintro _ _ ⟨_, ⟨rfl, rfl⟩, rfl⟩
    refine l_l rfl rfl rfl ?_
    refine l_nil ?_
    refine c_seq ?_
    refine c_region ?_
    refine l_l rfl rfl rfl ?_
    refine l_l rfl rfl rfl ?_
    refine l_x (x_val call_18 rfl (fun w hw => cost_fn bl _ [] Rise.nil (by simp) x hx w ((LJ.start bl _).line.lineW hw (fun x hx => hx)))) rfl rfl ?_
    rintro _ _ ⟨rfl, rfl⟩
    rw [bef_nil]
    refine l_l rfl rfl rfl ?_
    refine l_l rfl rfl rfl ?_
    refine l_l rfl rfl rfl ?_
    refine l_l rfl rfl rfl ?_
    refine l_l rfl rfl rfl ?_
    refine l_nil ?_
    refine c_seq ?_
    refine c_region ?_
    refine l_l rfl rfl rfl ?_
    refine l_x (x_callF (A := [(bl, _)]) (G := []) _ call_11 rfl (fun _ hb => mem_fst hb) (fun w hw => add_nil (cap_ok n) (LJ.start bl _) (by omega) (t' := 0) ⟨fun _ => rfl, fun h => (by omega)⟩ hw)) rfl rfl ?_
    rintro _ _ ⟨_, ⟨rfl, mk1, G1, D1, e1, f1, rfl, hJ1⟩, rfl⟩
    refine l_heap (H' := G1 ++ (D1 ++ [])) (fun _ h => by rw [List.append_assoc] at h; exact h) ?_
    have hm1 : addM (max 2 (min n 256)).toNat [] mk1 = [mk1] := addM_one (by omega) mk1
    rw [hm1] at hJ1
    refine l_nil ?_
    refine c_seq ?_
    by_cases h3 : 4611686018427387904 < (x : Int)
    · refine c_region ?_
      refine l_l rfl rfl rfl ?_
      refine l_l rfl rfl rfl ?_
      refine l_l (light_max rfl rfl) rfl rfl ?_
      refine l_x (x_callF (A := G1) (G := D1 ++ []) _ call_11 rfl (fun _ hb => mem_fst hb) (fun w hw => add_no bl (max 2 (min n 256)) (cap_ok n) [mk1] hJ1.rise (by simp) (max x 1) (by omega) none 0 [] (by simp) _ w hJ1.line (St.lend hw) (.inl ⟨rfl, rfl⟩) 1 (addErr_far (by omega)) (by decide))) rfl rfl ?_
      rintro _ _ ⟨_, ⟨rfl, rfl⟩, rfl⟩
      refine l_l rfl rfl rfl ?_
      refine l_nil ?_
      refine c_seq ?_
      refine c_region ?_
      refine l_l rfl rfl rfl ?_
      refine l_x (x_val call_11 rfl (fun w hw => add_nilp 0 w)) rfl rfl ?_
      rintro _ _ ⟨rfl, rfl⟩
      refine l_sure true rfl rfl rfl rfl ?_
      refine l_l rfl rfl rfl ?_
      refine l_l rfl rfl rfl ?_
      refine l_l (by first | exact light_len rfl rfl | exact light_lens rfl rfl | rfl) rfl rfl ?_
      refine l_sure true rfl rfl rfl rfl ?_
      refine l_l rfl rfl rfl ?_
      refine l_l rfl rfl rfl ?_
      refine l_l rfl rfl rfl ?_
      refine l_sure true rfl rfl rfl rfl ?_
      refine l_l rfl rfl rfl ?_
      refine l_l rfl rfl rfl ?_
      refine l_l rfl rfl rfl ?_
      refine l_sure true rfl rfl rfl rfl ?_
      refine l_l rfl rfl rfl ?_
      refine l_l rfl rfl rfl ?_
      refine l_l rfl rfl rfl ?_
      refine l_sure true rfl rfl rfl rfl ?_
      refine l_l rfl rfl rfl ?_
      refine l_l rfl rfl rfl ?_
      refine l_l rfl rfl rfl ?_
      refine l_x (x_val call_14 rfl (fun w hw => marks_nil 0 w)) rfl rfl ?_
      rintro _ _ ⟨rfl, rfl⟩
      refine l_l (by first | exact light_len rfl rfl | exact light_lens rfl rfl | rfl) rfl rfl ?_
      refine l_sure true rfl rfl rfl rfl ?_
      refine l_l rfl rfl rfl ?_
      refine l_l rfl rfl rfl ?_
      refine l_l rfl rfl rfl ?_
      refine l_l rfl rfl rfl ?_
      refine l_l rfl rfl rfl ?_
      refine l_l rfl rfl rfl ?_
      refine l_sure true (light_eqb rfl rfl rfl) rfl rfl (by simp [h0]) ?_
      refine l_l rfl rfl rfl ?_
      refine l_l rfl rfl rfl ?_
      refine l_l rfl rfl rfl ?_
      refine l_l rfl rfl rfl ?_
      refine l_l rfl rfl rfl ?_
      refine l_sure true (light_eqb rfl rfl rfl) rfl rfl (by simp [h0]) ?_
      refine l_l rfl rfl rfl ?_
      refine l_l rfl rfl rfl ?_
      refine l_l rfl rfl rfl ?_
      refine l_l rfl rfl rfl ?_
      refine l_l rfl rfl rfl ?_
      refine l_l rfl rfl rfl ?_
      refine l_sure true (light_eqb rfl rfl rfl) rfl rfl (by simp; try omega) ?_
      refine l_l rfl rfl rfl ?_
      refine l_l rfl rfl rfl ?_
      refine l_nil ?_
      refine c_ret ?_
      exact l_end0 (fun _ _ => rets_v rfl) ⟨rfl, rfl⟩
    · refine c_region ?_
      refine l_l rfl rfl rfl ?_
      refine l_l rfl rfl rfl ?_
      refine l_l (light_max rfl rfl) rfl rfl ?_
      refine l_x (x_callF (A := G1) (G := D1 ++ []) _ call_11 rfl (fun _ hb => mem_fst hb) (fun w hw => add_ok bl (max 2 (min n 256)) (cap_ok n) [mk1] hJ1.rise (by simp) (max x 1) (by omega) none 0 [] (by simp) _ w hJ1.line (St.lend hw) (.inl ⟨rfl, rfl⟩) (addErr_ok (by omega) (by simp) (fun _ => by have := hJ1.hi; have := (hJ1.more (by omega)).2.2; omega)))) rfl rfl ?_
      rintro _ _ ⟨_, ⟨rfl, mk2, G2, D2, e2, f2, g2, rfl, hL2, hB2⟩, rfl⟩
      refine l_l rfl rfl rfl ?_
      refine l_nil ?_
      refine c_seq ?_
      refine c_region ?_
      refine l_l rfl rfl rfl ?_
      refine l_x (x_val call_11 rfl (fun w hw => add_nilp 0 w)) rfl rfl ?_
      rintro _ _ ⟨rfl, rfl⟩
      refine l_sure true rfl rfl rfl rfl ?_
      refine l_l rfl rfl rfl ?_
      refine l_l rfl rfl rfl ?_
      refine l_l (by first | exact light_len rfl rfl | exact light_lens rfl rfl | rfl) rfl rfl ?_
      refine l_sure true rfl rfl rfl rfl ?_
      refine l_l rfl rfl rfl ?_
      refine l_l rfl rfl rfl ?_
      refine l_l rfl rfl rfl ?_
      refine l_sure true rfl rfl rfl rfl ?_
      refine l_l rfl rfl rfl ?_
      refine l_l rfl rfl rfl ?_
      refine l_l rfl rfl rfl ?_
      refine l_sure true rfl rfl rfl rfl ?_
      refine l_l rfl rfl rfl ?_
      refine l_l rfl rfl rfl ?_
      refine l_l rfl rfl rfl ?_
      refine l_sure true rfl rfl rfl rfl ?_
      refine l_l rfl rfl rfl ?_
      refine l_l rfl rfl rfl ?_
      refine l_l rfl rfl rfl ?_
      refine l_x (x_val call_14 rfl (fun w hw => marks_nil 0 w)) rfl rfl ?_
      rintro _ _ ⟨rfl, rfl⟩
      refine l_l (by first | exact light_len rfl rfl | exact light_lens rfl rfl | rfl) rfl rfl ?_
      refine l_sure true rfl rfl rfl rfl ?_
      refine l_l rfl rfl rfl ?_
      refine l_l rfl rfl rfl ?_
      refine l_l rfl rfl rfl ?_
      refine l_l rfl rfl rfl ?_
      refine l_l rfl rfl rfl ?_
      refine l_l rfl rfl rfl ?_
      refine l_sure true (light_eqb rfl rfl rfl) rfl rfl (by simp [h0]) ?_
      refine l_l rfl rfl rfl ?_
      refine l_l rfl rfl rfl ?_
      refine l_l rfl rfl rfl ?_
      refine l_l rfl rfl rfl ?_
      refine l_l rfl rfl rfl ?_
      refine l_sure true (light_eqb rfl rfl rfl) rfl rfl (by simp [h0]) ?_
      refine l_l rfl rfl rfl ?_
      refine l_l rfl rfl rfl ?_
      refine l_l rfl rfl rfl ?_
      refine l_l rfl rfl rfl ?_
      refine l_l rfl rfl rfl ?_
      refine l_l rfl rfl rfl ?_
      refine l_sure true (light_eqb rfl rfl rfl) rfl rfl (by simp; try omega) ?_
      refine l_l rfl rfl rfl ?_
      refine l_l rfl rfl rfl ?_
      refine l_nil ?_
      refine c_ret ?_
      exact l_end0 (fun _ _ => rets_v rfl) ⟨rfl, rfl⟩

end Go.Proofs.Ytkifhldkhemdlaa
