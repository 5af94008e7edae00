/- The contract of the addition of a mark. -/
import Derived.Test.YtkifhldkhemdlaaMut
import Derived.Test.YtkifhldkhemdlaaCalls
namespace Go.Proofs.Ytkifhldkhemdlaa
open Go Go.VV Go.Proofs
set_option linter.unusedSimpArgs false
set_option linter.unusedVariables false
set_option maxHeartbeats 4000000 in
theorem add_fn (b : Nat) (cap : Int) (hcap : 2 ≤ cap) (hcap2 : cap ≤ 256) (ms : List Mark) (hR : Rise ms) (hlen : ms.length < 100000000) (x : Int) (hx : 0 ≤ x) (a : Option Addr) (c : Nat) (l : List Int) (hl : l.length ≤ 140737488355328) (G : Heap) (w : World)
    (hL : LineH b cap ms G) (hst : St w (G.map (·.1)) G w) (hB : BytS w (G.map (·.1)) a l) :
    Does Try.prog 11 [.pointer (some ⟨b, 0, none⟩), .int .u64 x, .slice a l.length c] w (G.map (·.1)) (Added b cap ms x l G) := by
  obtain ⟨vL, GL, rfl, hV⟩ := hL
  refine does_of Try.func11 rfl rfl rfl hst ?_
  refine c_seq ?_
  refine c_region ?_
  refine l_l rfl rfl rfl ?_
  refine l_nil ?_
  refine c_seq ?_
  refine c_seq ?_
  refine c_region ?_
  refine l_l rfl rfl rfl ?_
  refine l_l rfl rfl rfl ?_
  refine l_l rfl rfl rfl ?_
  refine l_l rfl rfl rfl ?_
  refine l_l rfl rfl rfl ?_
  refine l_l rfl rfl rfl ?_
  refine l_nil ?_
  refine c_cond rfl (fun h1 => ?_) (fun h1 => ?_)
  · refine c_seq ?_
    refine c_region ?_
    refine l_l rfl rfl rfl ?_
    refine l_nil ?_
    refine c_ret ?_
    exact l_end (fun _ _ => rets_v rfl) (List.Sublist.refl _) ⟨congrArg _ (addErr_far (by (try simp only [decide_eq_true_eq, decide_eq_false_iff_not, beq_iff_eq, beq_eq_false_iff_ne, bne_iff_ne, bne_eq_false_iff_eq, ne_eq] at *); omega)).symm, .inl ⟨by rw [addErr_far (by (try simp only [decide_eq_true_eq, decide_eq_false_iff_not, beq_iff_eq, beq_eq_false_iff_ne, bne_iff_ne, bne_eq_false_iff_eq, ne_eq] at *); omega)]; decide, rfl⟩⟩
  · refine c_skip ?_
    refine c_seq ?_
    refine c_region ?_
    refine l_l rfl rfl rfl ?_
    refine l_x (x_val call_19 rfl (fun w hw => last_fn b cap ms (by omega) w (LineH.lineW (G := (b, blk [vL, .int .i64 cap] 53) :: GL) ⟨_, _, rfl, hV⟩ hw (fun x hx => hx)))) rfl rfl ?_
    rintro _ _ ⟨rfl, rfl⟩
    refine l_l rfl rfl rfl ?_
    refine l_l rfl rfl rfl ?_
    refine l_l rfl rfl rfl ?_
    refine l_l rfl rfl rfl ?_
    refine l_l rfl rfl rfl ?_
    refine l_nil ?_
    refine c_seq ?_
    refine c_block ?_
    refine c_seq ?_
    by_cases hz : ms.length = 0
    · refine c_region ?_
      refine l_l rfl rfl rfl ?_
      refine l_l rfl rfl rfl ?_
      refine l_sure true rfl rfl rfl (by simp [hz]) ?_
      refine l_l rfl rfl rfl ?_
      refine l_l rfl rfl rfl ?_
      refine l_l rfl rfl rfl ?_
      refine l_l rfl rfl rfl ?_
      refine l_nil ?_
      refine c_cond rfl (fun h2 => ?_) (fun h2 => ?_)
      · refine c_seq ?_
        refine c_region ?_
        refine l_l rfl rfl rfl ?_
        refine l_nil ?_
        refine c_ret ?_
        exact l_end (fun _ _ => rets_v rfl) (List.Sublist.refl _) ⟨congrArg _ (addErr_first (by (try simp only [decide_eq_true_eq, decide_eq_false_iff_not, beq_iff_eq, beq_eq_false_iff_ne, bne_iff_ne, bne_eq_false_iff_eq, ne_eq] at *); omega) hz (by (try simp only [decide_eq_true_eq, decide_eq_false_iff_not, beq_iff_eq, beq_eq_false_iff_ne, bne_iff_ne, bne_eq_false_iff_eq, ne_eq] at *); omega)).symm, .inl ⟨by rw [addErr_first (by (try simp only [decide_eq_true_eq, decide_eq_false_iff_not, beq_iff_eq, beq_eq_false_iff_ne, bne_iff_ne, bne_eq_false_iff_eq, ne_eq] at *); omega) hz (by (try simp only [decide_eq_true_eq, decide_eq_false_iff_not, beq_iff_eq, beq_eq_false_iff_ne, bne_iff_ne, bne_eq_false_iff_eq, ne_eq] at *); omega)]; decide, rfl⟩⟩
      · refine c_seq ?_
        refine c_region ?_
        refine l_l rfl rfl rfl ?_
        refine l_sure false rfl rfl rfl (by simp [hz]) ?_
        refine l_p rfl rfl ?_
        refine l_p rfl rfl ?_
        refine l_p rfl rfl ?_
        refine l_l rfl rfl rfl ?_
        refine l_l rfl rfl rfl ?_
        refine l_nil ?_
        refine c_false rfl ?_
        refine c_skip ?_
        refine c_seq ?_
        have hok : addErr ms x = 0 := addErr_ok (by (try simp only [decide_eq_true_eq, decide_eq_false_iff_not, beq_iff_eq, beq_eq_false_iff_ne, bne_iff_ne, bne_eq_false_iff_eq, ne_eq] at *); omega) (fun hz' => by (try simp only [decide_eq_true_eq, decide_eq_false_iff_not, beq_iff_eq, beq_eq_false_iff_ne, bne_iff_ne, bne_eq_false_iff_eq, ne_eq] at *); omega) (fun hz' => by (try simp only [decide_eq_true_eq, decide_eq_false_iff_not, beq_iff_eq, beq_eq_false_iff_ne, bne_iff_ne, bne_eq_false_iff_eq, ne_eq] at *); omega)
        refine c_draw _ [5, 6, 7, 8, 9] (.step true 0 (.step true 1 (.step true 2 (.step true 3 (.step true 4 (.step true 5 (.step true 6 (.step false 7 (.step true 8 (.step false 9 (.step false 10 (.step true 11 (.step true 12 (.step false 13 .done)))))))))))))) rfl (by kernel_rfl) (by kernel_rfl) (fun _ h => h) ?_
        refine d_light rfl rfl rfl rfl rfl ?_
        refine d_light rfl rfl rfl rfl rfl ?_
        refine d_light rfl rfl rfl rfl rfl ?_
        refine d_light rfl (light_fa rfl rfl) rfl rfl rfl ?_
        refine d_load rfl rfl rfl (s_own (by repeat (first | exact .head _ | refine .tail _ ?_ | refine List.mem_append_right _ ?_)) (by rfl)) rfl rfl ?_
        refine d_light rfl rfl rfl rfl rfl ?_
        refine d_light rfl rfl rfl rfl rfl ?_
        refine d_x rfl (x_call call_20 rfl (fun w hw => clone_fn a c l hl w (hB.later hw))) rfl rfl (by intro _ _ _ hK x hx; obtain ⟨G42, hV42, rfl⟩ := hK; repeat (first | exact hx | exact List.mem_append_left _ hx | refine List.mem_append_right _ ?_ | refine .tail _ ?_)) ?_
        rintro v42 _ ⟨G42, hV42, rfl⟩
        obtain ⟨a42, c42, rfl, hc42, hB42⟩ := hV42.slice
        refine d_heap (fun _ h => h.perm List.perm_append_comm) ?_
        refine d_light rfl (light_struct rfl rfl rfl rfl) rfl rfl rfl ?_
        refine d_x rfl (x_slc rfl rfl rfl rfl rfl rfl) rfl rfl (by intro _ _ _ hK x hx; obtain ⟨_, rfl, rfl⟩ := hK; repeat (first | exact hx | exact List.mem_append_left _ hx | refine List.mem_append_right _ ?_ | refine .tail _ ?_)) ?_
        rintro _ _ ⟨b44, rfl, rfl⟩
        refine d_x rfl (x_append (A := [_, _]) (G := GL) (R := G42) (v := vL) (n := ms.length) (m := 1) (T := 56) (s := 2) (by_ := 32) (ys := cm ⟨x, a42, c42, l⟩) rfl rfl rfl rfl hV (fun w hw => .row _ _ _ _ _ rfl (row_own (.head _) w hw)) rfl (by omega) (by omega)) rfl rfl (by intro h; cases h) ?_
        rintro v45 _ ⟨G45, hV45, hnil45, rfl⟩
        rw [show flat cm ms ++ cm ⟨x, a42, c42, l⟩ = flat cm (ms ++ [⟨x, a42, c42, l⟩]) from (flat_snoc _ _).symm] at hV45
        refine d_heap (fun _ h => perm2 G45 [_, _] G42 h) ?_
        obtain ⟨a45, c45, rfl⟩ := hV45.slice
        refine d_light rfl rfl rfl rfl rfl ?_
        refine d_light rfl (light_fa rfl rfl) rfl rfl rfl ?_
        refine d_x rfl (by first | exact x_store 0 rfl rfl rfl rfl rfl rfl (by first | rfl | exact Nat.le_of_ble_eq_true rfl | (simp; done)) | exact x_store 1 rfl rfl rfl rfl rfl rfl (by first | rfl | exact Nat.le_of_ble_eq_true rfl | (simp; done)) | exact x_store 2 rfl rfl rfl rfl rfl rfl (by first | rfl | exact Nat.le_of_ble_eq_true rfl | (simp; done)) | exact x_store 3 rfl rfl rfl rfl rfl rfl (by first | rfl | exact Nat.le_of_ble_eq_true rfl | (simp; done))) rfl rfl (by intro h; cases h) ?_
        rintro _ _ ⟨rfl, rfl⟩
        refine d_nil ?_
        refine c_seq ?_
        refine c_region ?_
        refine l_l rfl rfl rfl ?_
        refine l_heap (fun _ h => h.sub (List.sublist_cons_self _ _)) ?_
        refine l_x (x_callF (A := (b, blk [.slice a45 (ms.length + 1) c45, .int .i64 cap] 53) :: G45) (G := G42) _ call_21 rfl (fun _ hb => mem_fst hb) (fun w hw => thin_fn b cap (ms ++ [⟨x, a42, c42, l⟩]) (rise_snoc hR hx (by (try simp only [decide_eq_true_eq, decide_eq_false_iff_not, beq_iff_eq, beq_eq_false_iff_ne, bne_iff_ne, bne_eq_false_iff_eq, ne_eq] at *); omega) (fun hz => by (try simp only [decide_eq_true_eq, decide_eq_false_iff_not, beq_iff_eq, beq_eq_false_iff_ne, bne_iff_ne, bne_eq_false_iff_eq, ne_eq] at *); omega)) (by simp) (by rw [List.length_append]; simp only [List.length_singleton]; omega) _ w ⟨_, _, rfl, by rw [List.length_append]; exact hV45⟩ (St.lend hw))) rfl rfl ?_
        rintro _ _ ⟨G49, ⟨rfl, ⟨v9, G9, rfl, hV9⟩⟩, rfl⟩
        have hT1 := thinL_pos (ms := ms ++ [⟨x, a42, c42, l⟩]) (by simp)
        have hT2 := thinL_le (ms ++ [⟨x, a42, c42, l⟩])
        rw [List.length_append, List.length_singleton] at hT2
        generalize hTT : thinL (ms ++ [⟨x, a42, c42, l⟩]) = tt at *
        obtain ⟨a9, c9, rfl⟩ := hV9.slice
        refine l_nil ?_
        refine c_seq ?_
        refine c_seq ?_
        refine c_draw _ [5, 6, 7, 8] (.step true 0 (.step true 1 (.step true 2 (.step true 3 (.step true 4 (.step true 5 (.step true 6 (.step true 7 (.step true 8 (.step true 9 (.step true 10 .done))))))))))) rfl (by kernel_rfl) (by kernel_rfl) (fun _ h => h) ?_
        refine d_light rfl rfl rfl rfl rfl ?_
        refine d_light rfl rfl rfl rfl rfl ?_
        refine d_light rfl (light_fa rfl rfl) rfl rfl rfl ?_
        refine d_load rfl rfl rfl (s_own (by repeat (first | exact .head _ | refine .tail _ ?_ | refine List.mem_append_right _ ?_)) (by rfl)) rfl rfl ?_
        refine d_light rfl (by first | exact light_len rfl rfl | exact light_lens rfl rfl | rfl) rfl rfl rfl ?_
        refine d_light rfl rfl rfl rfl rfl ?_
        refine d_light rfl rfl rfl rfl rfl ?_
        refine d_light rfl (light_fa rfl rfl) rfl rfl rfl ?_
        refine d_load rfl rfl rfl (s_own (by repeat (first | exact .head _ | refine .tail _ ?_ | refine List.mem_append_right _ ?_)) (by rfl)) rfl rfl ?_
        refine d_as (v := (.int .i64 ((tt.length : Int) - cap))) rfl rfl rfl rfl rfl (congrArg _ (wrap_i64 (by (try simp only [decide_eq_true_eq, decide_eq_false_iff_not, beq_iff_eq, beq_eq_false_iff_ne, bne_iff_ne, bne_eq_false_iff_eq, ne_eq] at *); omega) (by (try simp only [decide_eq_true_eq, decide_eq_false_iff_not, beq_iff_eq, beq_eq_false_iff_ne, bne_iff_ne, bne_eq_false_iff_eq, ne_eq] at *); omega))) ?_
        refine d_light rfl rfl rfl rfl rfl ?_
        refine d_nil ?_
        refine c_seq ?_
        refine c_region ?_
        refine l_l rfl rfl rfl ?_
        refine l_l rfl rfl rfl ?_
        refine l_nil ?_
        refine c_cond rfl (fun h3 => ?_) (fun h3 => ?_)
        · refine c_region ?_
          refine l_l rfl rfl rfl ?_
          refine l_l rfl rfl rfl ?_
          refine l_l rfl rfl rfl ?_
          refine l_l (light_fa rfl rfl) rfl rfl ?_
          refine l_x (x_load rfl rfl (at_own (by repeat (first | exact .head _ | refine .tail _ ?_ | refine List.mem_append_right _ ?_)) (by rfl))) rfl rfl ?_
          rintro _ _ ⟨rfl, rfl⟩
          refine l_l rfl rfl rfl ?_
          refine l_as (v := (.int .i64 ((1 + (tt.length - cap.toNat) : Nat) : Int))) rfl rfl rfl (congrArg _ (by rw [wrap_i64 (by (try simp only [decide_eq_true_eq, decide_eq_false_iff_not, beq_iff_eq, beq_eq_false_iff_ne, bne_iff_ne, bne_eq_false_iff_eq, ne_eq] at *); omega) (by (try simp only [decide_eq_true_eq, decide_eq_false_iff_not, beq_iff_eq, beq_eq_false_iff_ne, bne_iff_ne, bne_eq_false_iff_eq, ne_eq] at *); omega)]; (try simp only [decide_eq_true_eq, decide_eq_false_iff_not, beq_iff_eq, beq_eq_false_iff_ne, bne_iff_ne, bne_eq_false_iff_eq, ne_eq] at *); omega)) ?_
          obtain ⟨b9, c9, sp9, hv9, rfl, hsz9, hcl9, hmx9⟩ := vec_some hV9 (by omega)
          cases hv9
          refine l_heap (fun _ h => h.perm (List.Perm.swap _ _ _)) ?_
          refine l_x (x_callF (A := [_]) [b9] call_22 rfl (by simp) (fun w hw => delete_fn b9 c9 (1 + (tt.length - cap.toNat)) tt sp9 (by omega) hcl9 hsz9 (by (try simp only [decide_eq_true_eq, decide_eq_false_iff_not, beq_iff_eq, beq_eq_false_iff_ne, bne_iff_ne, bne_eq_false_iff_eq, ne_eq] at *); omega) (by (try simp only [decide_eq_true_eq, decide_eq_false_iff_not, beq_iff_eq, beq_eq_false_iff_ne, bne_iff_ne, bne_eq_false_iff_eq, ne_eq] at *); omega) w (hw.holds _ (.head _)))) rfl rfl ?_
          rintro _ _ ⟨G69, ⟨rfl, ⟨sp8, hsp8, rfl⟩⟩, rfl⟩
          refine l_l rfl rfl rfl ?_
          refine l_l (light_fa rfl rfl) rfl rfl ?_
          refine l_x (by first | exact x_store 0 rfl rfl rfl rfl rfl rfl (by first | rfl | exact Nat.le_of_ble_eq_true rfl | (simp; done)) | exact x_store 1 rfl rfl rfl rfl rfl rfl (by first | rfl | exact Nat.le_of_ble_eq_true rfl | (simp; done)) | exact x_store 2 rfl rfl rfl rfl rfl rfl (by first | rfl | exact Nat.le_of_ble_eq_true rfl | (simp; done)) | exact x_store 3 rfl rfl rfl rfl rfl rfl (by first | rfl | exact Nat.le_of_ble_eq_true rfl | (simp; done))) rfl rfl ?_
          rintro _ _ ⟨rfl, rfl⟩
          refine l_nil ?_
          refine c_seq ?_
          refine c_region ?_
          refine l_l rfl rfl rfl ?_
          refine l_nil ?_
          refine c_ret ?_
          exact ends_of (fun _ _ => rets_v rfl) (fun _ h => h.perm (List.Perm.swap _ _ _)) ⟨congrArg _ hok.symm, .inr ⟨hok, ⟨x, a42, c42, l⟩, [_, _], G42, rfl, rfl, hc42, rfl, line_cut hTT (by (try simp only [decide_eq_true_eq, decide_eq_false_iff_not, beq_iff_eq, beq_eq_false_iff_ne, bne_iff_ne, bne_eq_false_iff_eq, ne_eq] at *); omega) (by omega) hcl9 hmx9 hsp8, hV42⟩⟩
        · refine c_skip ?_
          refine c_seq ?_
          refine c_region ?_
          refine l_l rfl rfl rfl ?_
          refine l_nil ?_
          refine c_ret ?_
          exact l_end (fun _ _ => rets_v rfl) (List.Sublist.refl _) ⟨congrArg _ hok.symm, .inr ⟨hok, ⟨x, a42, c42, l⟩, _ :: G9, G42, rfl, rfl, hc42, rfl, ⟨_, _, rfl, by unfold addM; rw [hTT, cutL_all (by (try simp only [decide_eq_true_eq, decide_eq_false_iff_not, beq_iff_eq, beq_eq_false_iff_ne, bne_iff_ne, bne_eq_false_iff_eq, ne_eq] at *); omega)]; exact hV9⟩, hV42⟩⟩
    · refine c_region ?_
      refine l_l rfl rfl rfl ?_
      refine l_l rfl rfl rfl ?_
      refine l_sure false rfl rfl rfl (by simp [hz]) ?_
      refine l_p rfl rfl ?_
      refine l_p rfl rfl ?_
      refine l_l rfl rfl rfl ?_
      refine l_l rfl rfl rfl ?_
      refine l_nil ?_
      refine c_false rfl ?_
      refine c_seq ?_
      refine c_region ?_
      refine l_l rfl rfl rfl ?_
      refine l_sure true rfl rfl rfl (by simp [hz]) ?_
      refine l_l rfl rfl rfl ?_
      refine l_l rfl rfl rfl ?_
      refine l_l rfl rfl rfl ?_
      refine l_l rfl rfl rfl ?_
      refine l_l rfl rfl rfl ?_
      refine l_nil ?_
      refine c_cond rfl (fun h4 => ?_) (fun h4 => ?_)
      · refine c_seq ?_
        refine c_region ?_
        refine l_l rfl rfl rfl ?_
        refine l_nil ?_
        refine c_ret ?_
        exact l_end (fun _ _ => rets_v rfl) (List.Sublist.refl _) ⟨congrArg _ (addErr_same (by (try simp only [decide_eq_true_eq, decide_eq_false_iff_not, beq_iff_eq, beq_eq_false_iff_ne, bne_iff_ne, bne_eq_false_iff_eq, ne_eq] at *); omega) hz (by (try simp only [decide_eq_true_eq, decide_eq_false_iff_not, beq_iff_eq, beq_eq_false_iff_ne, bne_iff_ne, bne_eq_false_iff_eq, ne_eq] at *); omega)).symm, .inl ⟨by rw [addErr_same (by (try simp only [decide_eq_true_eq, decide_eq_false_iff_not, beq_iff_eq, beq_eq_false_iff_ne, bne_iff_ne, bne_eq_false_iff_eq, ne_eq] at *); omega) hz (by (try simp only [decide_eq_true_eq, decide_eq_false_iff_not, beq_iff_eq, beq_eq_false_iff_ne, bne_iff_ne, bne_eq_false_iff_eq, ne_eq] at *); omega)]; decide, rfl⟩⟩
      · refine c_skip ?_
        refine c_seq ?_
        have hok : addErr ms x = 0 := addErr_ok (by (try simp only [decide_eq_true_eq, decide_eq_false_iff_not, beq_iff_eq, beq_eq_false_iff_ne, bne_iff_ne, bne_eq_false_iff_eq, ne_eq] at *); omega) (fun hz' => by (try simp only [decide_eq_true_eq, decide_eq_false_iff_not, beq_iff_eq, beq_eq_false_iff_ne, bne_iff_ne, bne_eq_false_iff_eq, ne_eq] at *); omega) (fun hz' => by (try simp only [decide_eq_true_eq, decide_eq_false_iff_not, beq_iff_eq, beq_eq_false_iff_ne, bne_iff_ne, bne_eq_false_iff_eq, ne_eq] at *); omega)
        refine c_draw _ [5, 6, 7, 8, 9] (.step true 0 (.step true 1 (.step true 2 (.step true 3 (.step true 4 (.step true 5 (.step true 6 (.step false 7 (.step true 8 (.step false 9 (.step false 10 (.step true 11 (.step true 12 (.step false 13 .done)))))))))))))) rfl (by kernel_rfl) (by kernel_rfl) (fun _ h => h) ?_
        refine d_light rfl rfl rfl rfl rfl ?_
        refine d_light rfl rfl rfl rfl rfl ?_
        refine d_light rfl rfl rfl rfl rfl ?_
        refine d_light rfl (light_fa rfl rfl) rfl rfl rfl ?_
        refine d_load rfl rfl rfl (s_own (by repeat (first | exact .head _ | refine .tail _ ?_ | refine List.mem_append_right _ ?_)) (by rfl)) rfl rfl ?_
        refine d_light rfl rfl rfl rfl rfl ?_
        refine d_light rfl rfl rfl rfl rfl ?_
        refine d_x rfl (x_call call_20 rfl (fun w hw => clone_fn a c l hl w (hB.later hw))) rfl rfl (by intro _ _ _ hK x hx; obtain ⟨G42, hV42, rfl⟩ := hK; repeat (first | exact hx | exact List.mem_append_left _ hx | refine List.mem_append_right _ ?_ | refine .tail _ ?_)) ?_
        rintro v42 _ ⟨G42, hV42, rfl⟩
        obtain ⟨a42, c42, rfl, hc42, hB42⟩ := hV42.slice
        refine d_heap (fun _ h => h.perm List.perm_append_comm) ?_
        refine d_light rfl (light_struct rfl rfl rfl rfl) rfl rfl rfl ?_
        refine d_x rfl (x_slc rfl rfl rfl rfl rfl rfl) rfl rfl (by intro _ _ _ hK x hx; obtain ⟨_, rfl, rfl⟩ := hK; repeat (first | exact hx | exact List.mem_append_left _ hx | refine List.mem_append_right _ ?_ | refine .tail _ ?_)) ?_
        rintro _ _ ⟨b44, rfl, rfl⟩
        refine d_x rfl (x_append (A := [_, _]) (G := GL) (R := G42) (v := vL) (n := ms.length) (m := 1) (T := 56) (s := 2) (by_ := 32) (ys := cm ⟨x, a42, c42, l⟩) rfl rfl rfl rfl hV (fun w hw => .row _ _ _ _ _ rfl (row_own (.head _) w hw)) rfl (by omega) (by omega)) rfl rfl (by intro h; cases h) ?_
        rintro v45 _ ⟨G45, hV45, hnil45, rfl⟩
        rw [show flat cm ms ++ cm ⟨x, a42, c42, l⟩ = flat cm (ms ++ [⟨x, a42, c42, l⟩]) from (flat_snoc _ _).symm] at hV45
        refine d_heap (fun _ h => perm2 G45 [_, _] G42 h) ?_
        obtain ⟨a45, c45, rfl⟩ := hV45.slice
        refine d_light rfl rfl rfl rfl rfl ?_
        refine d_light rfl (light_fa rfl rfl) rfl rfl rfl ?_
        refine d_x rfl (by first | exact x_store 0 rfl rfl rfl rfl rfl rfl (by first | rfl | exact Nat.le_of_ble_eq_true rfl | (simp; done)) | exact x_store 1 rfl rfl rfl rfl rfl rfl (by first | rfl | exact Nat.le_of_ble_eq_true rfl | (simp; done)) | exact x_store 2 rfl rfl rfl rfl rfl rfl (by first | rfl | exact Nat.le_of_ble_eq_true rfl | (simp; done)) | exact x_store 3 rfl rfl rfl rfl rfl rfl (by first | rfl | exact Nat.le_of_ble_eq_true rfl | (simp; done))) rfl rfl (by intro h; cases h) ?_
        rintro _ _ ⟨rfl, rfl⟩
        refine d_nil ?_
        refine c_seq ?_
        refine c_region ?_
        refine l_l rfl rfl rfl ?_
        refine l_heap (fun _ h => h.sub (List.sublist_cons_self _ _)) ?_
        refine l_x (x_callF (A := (b, blk [.slice a45 (ms.length + 1) c45, .int .i64 cap] 53) :: G45) (G := G42) _ call_21 rfl (fun _ hb => mem_fst hb) (fun w hw => thin_fn b cap (ms ++ [⟨x, a42, c42, l⟩]) (rise_snoc hR hx (by (try simp only [decide_eq_true_eq, decide_eq_false_iff_not, beq_iff_eq, beq_eq_false_iff_ne, bne_iff_ne, bne_eq_false_iff_eq, ne_eq] at *); omega) (fun hz => by (try simp only [decide_eq_true_eq, decide_eq_false_iff_not, beq_iff_eq, beq_eq_false_iff_ne, bne_iff_ne, bne_eq_false_iff_eq, ne_eq] at *); omega)) (by simp) (by rw [List.length_append]; simp only [List.length_singleton]; omega) _ w ⟨_, _, rfl, by rw [List.length_append]; exact hV45⟩ (St.lend hw))) rfl rfl ?_
        rintro _ _ ⟨G49, ⟨rfl, ⟨v9, G9, rfl, hV9⟩⟩, rfl⟩
        have hT1 := thinL_pos (ms := ms ++ [⟨x, a42, c42, l⟩]) (by simp)
        have hT2 := thinL_le (ms ++ [⟨x, a42, c42, l⟩])
        rw [List.length_append, List.length_singleton] at hT2
        generalize hTT : thinL (ms ++ [⟨x, a42, c42, l⟩]) = tt at *
        obtain ⟨a9, c9, rfl⟩ := hV9.slice
        refine l_nil ?_
        refine c_seq ?_
        refine c_seq ?_
        refine c_draw _ [5, 6, 7, 8] (.step true 0 (.step true 1 (.step true 2 (.step true 3 (.step true 4 (.step true 5 (.step true 6 (.step true 7 (.step true 8 (.step true 9 (.step true 10 .done))))))))))) rfl (by kernel_rfl) (by kernel_rfl) (fun _ h => h) ?_
        refine d_light rfl rfl rfl rfl rfl ?_
        refine d_light rfl rfl rfl rfl rfl ?_
        refine d_light rfl (light_fa rfl rfl) rfl rfl rfl ?_
        refine d_load rfl rfl rfl (s_own (by repeat (first | exact .head _ | refine .tail _ ?_ | refine List.mem_append_right _ ?_)) (by rfl)) rfl rfl ?_
        refine d_light rfl (by first | exact light_len rfl rfl | exact light_lens rfl rfl | rfl) rfl rfl rfl ?_
        refine d_light rfl rfl rfl rfl rfl ?_
        refine d_light rfl rfl rfl rfl rfl ?_
        refine d_light rfl (light_fa rfl rfl) rfl rfl rfl ?_
        refine d_load rfl rfl rfl (s_own (by repeat (first | exact .head _ | refine .tail _ ?_ | refine List.mem_append_right _ ?_)) (by rfl)) rfl rfl ?_
        refine d_as (v := (.int .i64 ((tt.length : Int) - cap))) rfl rfl rfl rfl rfl (congrArg _ (wrap_i64 (by (try simp only [decide_eq_true_eq, decide_eq_false_iff_not, beq_iff_eq, beq_eq_false_iff_ne, bne_iff_ne, bne_eq_false_iff_eq, ne_eq] at *); omega) (by (try simp only [decide_eq_true_eq, decide_eq_false_iff_not, beq_iff_eq, beq_eq_false_iff_ne, bne_iff_ne, bne_eq_false_iff_eq, ne_eq] at *); omega))) ?_
        refine d_light rfl rfl rfl rfl rfl ?_
        refine d_nil ?_
        refine c_seq ?_
        refine c_region ?_
        refine l_l rfl rfl rfl ?_
        refine l_l rfl rfl rfl ?_
        refine l_nil ?_
        refine c_cond rfl (fun h5 => ?_) (fun h5 => ?_)
        · refine c_region ?_
          refine l_l rfl rfl rfl ?_
          refine l_l rfl rfl rfl ?_
          refine l_l rfl rfl rfl ?_
          refine l_l (light_fa rfl rfl) rfl rfl ?_
          refine l_x (x_load rfl rfl (at_own (by repeat (first | exact .head _ | refine .tail _ ?_ | refine List.mem_append_right _ ?_)) (by rfl))) rfl rfl ?_
          rintro _ _ ⟨rfl, rfl⟩
          refine l_l rfl rfl rfl ?_
          refine l_as (v := (.int .i64 ((1 + (tt.length - cap.toNat) : Nat) : Int))) rfl rfl rfl (congrArg _ (by rw [wrap_i64 (by (try simp only [decide_eq_true_eq, decide_eq_false_iff_not, beq_iff_eq, beq_eq_false_iff_ne, bne_iff_ne, bne_eq_false_iff_eq, ne_eq] at *); omega) (by (try simp only [decide_eq_true_eq, decide_eq_false_iff_not, beq_iff_eq, beq_eq_false_iff_ne, bne_iff_ne, bne_eq_false_iff_eq, ne_eq] at *); omega)]; (try simp only [decide_eq_true_eq, decide_eq_false_iff_not, beq_iff_eq, beq_eq_false_iff_ne, bne_iff_ne, bne_eq_false_iff_eq, ne_eq] at *); omega)) ?_
          obtain ⟨b9, c9, sp9, hv9, rfl, hsz9, hcl9, hmx9⟩ := vec_some hV9 (by omega)
          cases hv9
          refine l_heap (fun _ h => h.perm (List.Perm.swap _ _ _)) ?_
          refine l_x (x_callF (A := [_]) [b9] call_22 rfl (by simp) (fun w hw => delete_fn b9 c9 (1 + (tt.length - cap.toNat)) tt sp9 (by omega) hcl9 hsz9 (by (try simp only [decide_eq_true_eq, decide_eq_false_iff_not, beq_iff_eq, beq_eq_false_iff_ne, bne_iff_ne, bne_eq_false_iff_eq, ne_eq] at *); omega) (by (try simp only [decide_eq_true_eq, decide_eq_false_iff_not, beq_iff_eq, beq_eq_false_iff_ne, bne_iff_ne, bne_eq_false_iff_eq, ne_eq] at *); omega) w (hw.holds _ (.head _)))) rfl rfl ?_
          rintro _ _ ⟨G69, ⟨rfl, ⟨sp8, hsp8, rfl⟩⟩, rfl⟩
          refine l_l rfl rfl rfl ?_
          refine l_l (light_fa rfl rfl) rfl rfl ?_
          refine l_x (by first | exact x_store 0 rfl rfl rfl rfl rfl rfl (by first | rfl | exact Nat.le_of_ble_eq_true rfl | (simp; done)) | exact x_store 1 rfl rfl rfl rfl rfl rfl (by first | rfl | exact Nat.le_of_ble_eq_true rfl | (simp; done)) | exact x_store 2 rfl rfl rfl rfl rfl rfl (by first | rfl | exact Nat.le_of_ble_eq_true rfl | (simp; done)) | exact x_store 3 rfl rfl rfl rfl rfl rfl (by first | rfl | exact Nat.le_of_ble_eq_true rfl | (simp; done))) rfl rfl ?_
          rintro _ _ ⟨rfl, rfl⟩
          refine l_nil ?_
          refine c_seq ?_
          refine c_region ?_
          refine l_l rfl rfl rfl ?_
          refine l_nil ?_
          refine c_ret ?_
          exact ends_of (fun _ _ => rets_v rfl) (fun _ h => h.perm (List.Perm.swap _ _ _)) ⟨congrArg _ hok.symm, .inr ⟨hok, ⟨x, a42, c42, l⟩, [_, _], G42, rfl, rfl, hc42, rfl, line_cut hTT (by (try simp only [decide_eq_true_eq, decide_eq_false_iff_not, beq_iff_eq, beq_eq_false_iff_ne, bne_iff_ne, bne_eq_false_iff_eq, ne_eq] at *); omega) (by omega) hcl9 hmx9 hsp8, hV42⟩⟩
        · refine c_skip ?_
          refine c_seq ?_
          refine c_region ?_
          refine l_l rfl rfl rfl ?_
          refine l_nil ?_
          refine c_ret ?_
          exact l_end (fun _ _ => rets_v rfl) (List.Sublist.refl _) ⟨congrArg _ hok.symm, .inr ⟨hok, ⟨x, a42, c42, l⟩, _ :: G9, G42, rfl, rfl, hc42, rfl, ⟨_, _, rfl, by unfold addM; rw [hTT, cutL_all (by (try simp only [decide_eq_true_eq, decide_eq_false_iff_not, beq_iff_eq, beq_eq_false_iff_ne, bne_iff_ne, bne_eq_false_iff_eq, ne_eq] at *); omega)]; exact hV9⟩, hV42⟩⟩

end Go.Proofs.Ytkifhldkhemdlaa
