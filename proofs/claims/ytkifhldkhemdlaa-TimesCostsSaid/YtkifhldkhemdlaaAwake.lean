/- A program that does something is awake. -/
import Derived.Test.YtkifhldkhemdlaaUse
import Derived.Test.YtkifhldkhemdlaaCalls
namespace Go.Proofs.Ytkifhldkhemdlaa
open Go Go.VV Go.Proofs
set_option linter.unusedSimpArgs false
set_option linter.unusedVariables false
theorem awake_fn (w : World) : Does Try.prog 9 [] w [] (fun v H => H = [] ∧ v = .bool true) := by
  refine does_of Try.func9 rfl rfl rfl (St.refl w) ?_
  refine c_seq ?_
  refine c_region ?_
  refine l_l rfl rfl rfl ?_
  refine l_nil ?_
  refine c_seq ?_
  refine c_region ?_
  refine l_x (x_call call_10 rfl (fun w hw => new_fn 9 w)) rfl rfl ?_
  rintro _ _ ⟨G7, ⟨b7, rfl, rfl⟩, rfl⟩
  refine l_l rfl rfl rfl ?_
  refine l_nil ?_
  refine c_seq ?_
  refine c_seq ?_
  refine c_region ?_
  refine l_l rfl rfl rfl ?_
  refine l_l rfl rfl rfl ?_
  refine l_l rfl rfl rfl ?_
  refine l_l rfl rfl rfl ?_
  refine l_x (x_slc rfl rfl rfl rfl rfl rfl) rfl rfl ?_
  rintro _ _ ⟨b12, rfl, rfl⟩
  refine l_heap (fun _ h => h.perm (List.Perm.swap _ _ _)) ?_
  refine l_x (x_callF (A := [(b7, _)]) (G := [(b12, _)]) _ call_11 rfl (fun _ hb => mem_fst hb) (fun w hw => add_at (cap := 9) ⟨by omega, by omega⟩ (LJ.start b7 9) (by omega) ⟨fun _ => rfl, fun h => (by omega)⟩ (l := [7]) (by simp) hw (byt_away (l := [7]) hw (.head _)))) rfl rfl ?_
  rintro _ _ ⟨_, ⟨rfl, mk1, G1, D1, e1, f1, rfl, hJ1⟩, rfl⟩
  refine l_heap (fun _ h => by rw [List.append_assoc] at h; exact h) ?_
  refine l_l rfl rfl rfl ?_
  refine l_sure false rfl rfl rfl rfl ?_
  refine l_l rfl rfl rfl ?_
  refine l_l rfl rfl rfl ?_
  refine l_x (x_callF (A := G1) (G := D1 ++ _) _ call_11 rfl (fun _ hb => mem_fst hb) (fun w hw => add_nil (cap := 9) ⟨by omega, by omega⟩ hJ1 (by omega) (t' := 1) ⟨fun h => (by omega), fun _ => by omega⟩ hw)) rfl rfl ?_
  rintro _ _ ⟨_, ⟨rfl, mk2, G2, D2, e2, f2, rfl, hJ2⟩, rfl⟩
  refine l_heap (H' := G2 ++ ((D2 ++ (D1 ++ [])) ++ [(b12, _)])) (fun _ h => by simpa only [List.append_assoc, List.append_nil, List.nil_append] using h) ?_
  obtain ⟨hms, hbe, hbm⟩ := awake_ms e1 f1 e2
  rw [hms] at hJ2
  refine l_l rfl rfl rfl ?_
  refine l_sure false rfl rfl rfl rfl ?_
  refine l_nil ?_
  refine c_false rfl ?_
  refine c_skip ?_
  refine c_seq ?_
  refine c_region ?_
  refine l_l rfl rfl rfl ?_
  refine l_x (x_call call_12 rfl (fun w hw => Before_fn b7 9 [mk1, mk2] hJ2.rise (by simp) 0 w (hJ2.line.lineW hw (fun x hx => by first | exact List.mem_append_left _ hx | exact hx | exact List.mem_append_right _ (List.mem_append_left _ hx))) (hJ2.dat.datW hw (fun x hx => by first | exact List.mem_append_right _ hx | exact List.mem_append_right _ (List.mem_append_right _ hx) | exact List.mem_append_right _ (List.mem_append_left _ hx))))) rfl rfl ?_
  rintro _ _ ⟨G23, ⟨v23, rfl, hV23⟩, rfl⟩
  rw [hbe, hbm, e1]
  rw [hbm, f1] at hV23
  obtain ⟨a23, c23, rfl, hc23, hB23⟩ := hV23.slice
  refine l_l rfl rfl rfl ?_
  refine l_l rfl rfl rfl ?_
  refine l_l rfl rfl rfl ?_
  refine l_l rfl rfl rfl ?_
  refine l_l rfl rfl rfl ?_
  refine l_l rfl rfl rfl ?_
  refine l_l rfl rfl rfl ?_
  refine l_nil ?_
  refine c_seq ?_
  refine c_region ?_
  refine l_l rfl rfl rfl ?_
  refine l_x (x_val call_19 rfl (fun w hw => last_fn b7 9 [mk1, mk2] (by simp) w (hJ2.line.lineW hw (fun x hx => List.mem_append_right _ (List.mem_append_left _ hx))))) rfl rfl ?_
  rintro _ _ ⟨rfl, rfl⟩
  rw [awake_last e2]
  refine l_l rfl rfl rfl ?_
  refine l_l rfl rfl rfl ?_
  refine l_l rfl rfl rfl ?_
  refine l_l rfl rfl rfl ?_
  refine l_l rfl rfl rfl ?_
  refine l_nil ?_
  refine c_seq ?_
  refine c_region ?_
  refine l_l rfl rfl rfl ?_
  refine l_l rfl rfl rfl ?_
  refine l_sure true rfl rfl rfl (by simp [e1]) ?_
  refine l_l rfl rfl rfl ?_
  refine l_x (x_slc rfl rfl rfl rfl rfl rfl) rfl rfl ?_
  rintro _ _ ⟨b36, rfl, rfl⟩
  refine l_x (x_val call_13 rfl (fun w hw => same2_fn _ _ _ _ [7] [7] (by simp) w (hB23 _ _ _ _ hw (fun x hx => .tail _ (List.mem_append_left _ hx))) (.inr ⟨_, _, rfl, row_own (.head _) w hw⟩))) rfl rfl ?_
  rintro _ _ ⟨rfl, rfl⟩
  refine l_l rfl rfl rfl ?_
  refine l_sure true rfl rfl rfl rfl ?_
  refine l_l rfl rfl rfl ?_
  refine l_l rfl rfl rfl ?_
  refine l_sure true rfl rfl rfl rfl ?_
  refine l_l rfl rfl rfl ?_
  refine l_l rfl rfl rfl ?_
  refine l_l rfl rfl rfl ?_
  refine l_sure true rfl rfl rfl rfl ?_
  refine l_l rfl rfl rfl ?_
  refine l_l rfl rfl rfl ?_
  refine l_sure true rfl rfl rfl rfl ?_
  refine l_l rfl rfl rfl ?_
  refine l_heap (fun _ h => perm2 (_ :: G23) G2 _ h) ?_
  refine l_x (x_callF (A := G2) (G := _) _ call_11 rfl (fun _ hb => mem_fst hb) (fun w hw => add_late (cap := 9) ⟨by omega, by omega⟩ hJ2 (by omega) (t' := 1) (by omega) (by omega) (by omega) hw)) rfl rfl ?_
  rintro _ _ ⟨_, ⟨rfl, rfl⟩, rfl⟩
  refine l_l rfl rfl rfl ?_
  refine l_l rfl rfl rfl ?_
  refine l_l rfl rfl rfl ?_
  refine l_nil ?_
  refine c_ret ?_
  exact l_end0 (fun _ _ => rets_v rfl) ⟨rfl, rfl⟩

end Go.Proofs.Ytkifhldkhemdlaa
