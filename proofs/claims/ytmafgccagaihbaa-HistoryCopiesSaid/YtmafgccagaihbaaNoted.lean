/- A history behind steps; a call or a return more. -/
import Derived.Test.YtmafgccagaihbaaLeaf
import Derived.Test.YtmafgccagaihbaaSteps
import Derived.Test.YtmafgccagaihbaaCalls
namespace Go.Proofs.Ytmafgccagaihbaa
open Go Go.VV Go.Proofs
set_option linter.unusedSimpArgs false
set_option linter.unusedVariables false
set_option maxRecDepth 100000
theorem noted_fn (a : Option Addr) (c : Nat) (l : List Stp) (hok : ∀ s ∈ l, StpOk s) (hlen : l.length < 1000000000) (keep : Int) (w : World) (hE : Els w cS a l) :
    Does Try.prog 13 [.slice a l.length c, .int .i64 keep] w [] (fun v H => ∃ b ring, v = .pointer (some ⟨b, 0, none⟩) ∧ HistH b (kp keep) l.length (callsL l) ring H ∧ RingOk (kp keep) ring l) := by
  refine does_of Try.func13 rfl rfl rfl (St.refl w) ?_
  refine c_seq ?_
  refine c_region ?_
  refine l_l rfl rfl rfl ?_
  refine l_nil ?_
  refine c_seq ?_
  refine c_region ?_
  refine l_l rfl rfl rfl ?_
  refine l_x (x_call call_10 rfl (fun w hw => new_fn keep w)) rfl rfl ?_
  rintro _ _ ⟨G5, ⟨b5, rfl, hH5⟩, rfl⟩
  refine l_l rfl rfl rfl ?_
  refine l_nil ?_
  refine c_seq ?_
  refine c_seq ?_
  refine c_region ?_
  refine l_l rfl rfl rfl ?_
  refine l_l (by first | exact light_len rfl rfl | exact light_lens rfl rfl | rfl) rfl rfl ?_
  refine l_l rfl rfl rfl ?_
  refine l_nil ?_
  refine c_block ?_
  refine c_loop (σ := Nat × List Rcd × Heap) [6, 11, 12, 13, 14, 15, 16, 17, 18, 19, 20, 21, 22, 23, 24, 25, 26, 27, 28, 29, 30, 31, 32, 33, 34, 35, 36, 37] (fun s => [(11, .int .i64 s.1)]) (fun s => s.2.2) (fun s => s.1 ≤ l.length ∧ HistH b5 (kp keep) s.1 (callsL (l.take s.1)) s.2.1 s.2.2 ∧ RingOk (kp keep) s.2.1 (l.take s.1)) (fun s => l.length - s.1) (0, List.replicate 32 r0, G5) ?_ ?_ ?_ ?_
  · exact ⟨Nat.zero_le _, hH5, .start _ rfl⟩
  · exact .cons rfl .nil
  · exact fun _ h => h.as (by simp)
  · rintro ⟨k, ring, G⟩ y3 ⟨hk, hH, hR⟩
    dsimp only at hk hH hR ⊢
    refine c_seq ?_
    refine c_region ?_
    refine l_l rfl rfl rfl ?_
    refine l_nil ?_
    refine c_seq ?_
    refine c_cond rfl (fun h1 => ?_) (fun h1 => ?_)
    · refine c_skip ?_
      refine c_seq ?_
      refine c_block ?_
      refine c_seq ?_
      refine c_region ?_
      refine l_l rfl rfl rfl ?_
      refine l_l rfl rfl rfl ?_
      refine l_nil ?_
      obtain ⟨bl, ol, rfl, hr⟩ := hE.row (i := k) (by (try simp only [decide_eq_true_eq, decide_eq_false_iff_not, beq_iff_eq, beq_eq_false_iff_ne, bne_iff_ne, bne_eq_false_iff_eq, ne_eq] at *); omega)
      obtain ⟨s, hg⟩ : ∃ s, l[k]? = some s := ⟨_, get_some (by (try simp only [decide_eq_true_eq, decide_eq_false_iff_not, beq_iff_eq, beq_eq_false_iff_ne, bne_iff_ne, bne_eq_false_iff_eq, ne_eq] at *); omega)⟩
      have hso := hok s (List.mem_of_getElem? hg)
      refine c_draw _ [6, 7, 8, 9, 10, 11, 12, 13, 14, 15, 16, 17, 18, 19, 20, 21] (.step true 0 (.step true 1 (.step true 2 (.step true 3 (.step true 4 (.step true 5 (.step true 6 (.step true 7 (.step true 8 (.step true 9 (.step true 10 (.step true 11 (.step true 12 (.step true 13 (.step true 14 (.step true 15 (.step true 17 (.step true 18 (.step true 19 (.step true 20 (.step true 21 (.step false 16 (.step false 22 .done))))))))))))))))))))))) rfl (by kernel_rfl) (by kernel_rfl) (fun _ h => h) ?_
      refine d_light rfl rfl rfl rfl rfl ?_
      refine d_light rfl rfl rfl rfl rfl ?_
      refine d_light rfl rfl rfl rfl rfl ?_
      refine d_light rfl (idx_slice (s := 12) k rfl rfl rfl rfl (by (try simp only [decide_eq_true_eq, decide_eq_false_iff_not, beq_iff_eq, beq_eq_false_iff_ne, bne_iff_ne, bne_eq_false_iff_eq, ne_eq] at *); omega)) rfl rfl rfl ?_
      refine d_light rfl (light_fa rfl rfl) rfl rfl rfl ?_
      refine d_load rfl rfl rfl (fun w hw => (srow_old hr (by simp) w hw).at cS_len hg 0 rfl) rfl rfl ?_
      refine d_light rfl rfl rfl rfl rfl ?_
      refine d_light rfl rfl rfl rfl rfl ?_
      refine d_light rfl (idx_slice (s := 12) k rfl rfl rfl rfl (by (try simp only [decide_eq_true_eq, decide_eq_false_iff_not, beq_iff_eq, beq_eq_false_iff_ne, bne_iff_ne, bne_eq_false_iff_eq, ne_eq] at *); omega)) rfl rfl rfl ?_
      refine d_light rfl (light_fa rfl rfl) rfl rfl rfl ?_
      refine d_load rfl rfl rfl (fun w hw => (srow_old hr (by simp) w hw).at cS_len hg 1 rfl) rfl rfl ?_
      refine d_light rfl rfl rfl rfl rfl ?_
      refine d_light rfl rfl rfl rfl rfl ?_
      refine d_light rfl (idx_slice (s := 12) k rfl rfl rfl rfl (by (try simp only [decide_eq_true_eq, decide_eq_false_iff_not, beq_iff_eq, beq_eq_false_iff_ne, bne_iff_ne, bne_eq_false_iff_eq, ne_eq] at *); omega)) rfl rfl rfl ?_
      refine d_light rfl (light_fa rfl rfl) rfl rfl rfl ?_
      refine d_loadA rfl rfl rfl rfl (fun w hw => (srow_old hr (by simp) w hw).part cS_len hg 2 9 rfl) rfl rfl ?_
      refine d_light rfl rfl rfl rfl rfl ?_
      refine d_light rfl rfl rfl rfl rfl ?_
      refine d_light rfl (idx_slice (s := 12) k rfl rfl rfl rfl (by (try simp only [decide_eq_true_eq, decide_eq_false_iff_not, beq_iff_eq, beq_eq_false_iff_ne, bne_iff_ne, bne_eq_false_iff_eq, ne_eq] at *); omega)) rfl rfl rfl ?_
      refine d_light rfl (light_fa rfl rfl) rfl rfl rfl ?_
      refine d_load rfl rfl rfl (fun w hw => (srow_old hr (by simp) w hw).at cS_len hg 11 rfl) rfl rfl ?_
      refine d_x rfl (x_val call_22 rfl (fun w hw => did_fn s w)) rfl rfl (by intro _ _ _ hK x hx; obtain ⟨rfl, rfl⟩ := hK; repeat (first | exact hx | exact List.mem_append_left _ hx | refine List.mem_append_right _ ?_ | refine .tail _ ?_)) ?_
      rintro _ _ ⟨rfl, rfl⟩
      refine d_x rfl (x_callA call_11 rfl (fun w hw => note_fn b5 (kp keep) k _ ring (kp_ok keep).1 (kp_ok keep).2 (by omega) (callsL_len _) _ w hH (St.lentA hw) s hso)) rfl rfl (by intro h; cases h) ?_
      rintro _ G' ⟨rfl, hH'⟩
      rw [callsL_take hg] at hH'
      have hR' := ring_take hg hR (kp_ok keep).1 (kp_ok keep).2
      refine d_nil ?_
      refine c_region ?_
      refine l_as (v := (.int .i64 ((k + 1 : Nat) : Int))) rfl rfl rfl (congrArg _ (succ_law (by omega))) ?_
      refine l_l rfl rfl rfl ?_
      refine l_nil ?_
      exact ⟨(k + 1, _, G'), ⟨by (try simp only [decide_eq_true_eq, decide_eq_false_iff_not, beq_iff_eq, beq_eq_false_iff_ne, bne_iff_ne, bne_eq_false_iff_eq, ne_eq] at *); omega, hH', hR'⟩, by (try simp only [decide_eq_true_eq, decide_eq_false_iff_not, beq_iff_eq, beq_eq_false_iff_ne, bne_iff_ne, bne_eq_false_iff_eq, ne_eq] at *); omega, .cons rfl .nil, (by repeat (first | exact Agree.refl _ _ | exact Agree.mix rfl | refine Agree.put rfl ?_ | refine Agree.keep rfl ?_)), fun _ h => h⟩
    · refine c_exit rfl ?_
      refine c_seq ?_
      obtain rfl : k = l.length := by (try simp only [decide_eq_true_eq, decide_eq_false_iff_not, beq_iff_eq, beq_eq_false_iff_ne, bne_iff_ne, bne_eq_false_iff_eq, ne_eq] at *); omega
      rw [List.take_length] at hH hR
      refine c_region ?_
      refine l_l rfl rfl rfl ?_
      refine l_l rfl rfl rfl ?_
      refine l_nil ?_
      refine c_ret ?_
      exact l_end (fun _ _ => rets_v rfl) (List.Sublist.refl _) ⟨_, _, rfl, hH, hR⟩

theorem clos_fn (b keep noted : Nat) (cs : List Cll) (ring : List Rcd) (hk1 : 1 ≤ keep) (hk2 : keep ≤ 32) (hnt : noted < 1000000000) (hcl : cs.length ≤ 256) (G : Heap) (w : World) (hL : HistH b keep noted cs ring G) (hst : St w (G.map (·.1)) G w) (up : Bool) (bp : Nat) (hp : w.cell? ⟨bp, 0, none⟩ = some (.pointer (some ⟨b, 0, none⟩))) (hbp : bp ∉ G.map (·.1)) :
    Does Try.prog 14 [.bool up, .pointer (some ⟨bp, 0, none⟩)] w (G.map (·.1)) (fun v H => v = .tuple #[] ∧ HistH b keep (noted + 1) (noteC cs (upS up)) (ring.set (noted % keep) (recOf (upS up))) H) := by
  refine does_of Try.func14 rfl rfl rfl hst ?_
  refine c_seq ?_
  refine c_region ?_
  refine l_l rfl rfl rfl ?_
  refine l_l rfl rfl rfl ?_
  refine l_nil ?_
  refine c_seq ?_
  refine c_seq ?_
  refine c_region ?_
  refine l_l rfl rfl rfl ?_
  refine l_nil ?_
  refine c_cond rfl (fun h1 => ?_) (fun h1 => ?_)
  · subst h1
    refine c_region ?_
    refine l_l rfl rfl rfl ?_
    refine l_l rfl rfl rfl ?_
    refine l_nil ?_
    refine c_region ?_
    refine l_x (x_load rfl rfl (at_old hp hbp)) rfl rfl ?_
    rintro _ _ ⟨rfl, rfl⟩
    refine l_l rfl rfl rfl ?_
    refine l_l rfl rfl rfl ?_
    refine l_l (light_struct rfl rfl rfl rfl) rfl rfl ?_
    refine l_l (light_struct rfl rfl rfl rfl) rfl rfl ?_
    refine l_x (x_callA call_11 rfl (fun w hw => note_fn b keep noted cs ring hk1 hk2 hnt hcl _ w hL (St.lentA hw) (upS true) (upS_ok _))) rfl rfl ?_
    rintro _ G' ⟨rfl, hH'⟩
    refine l_nil ?_
    exact l_end (fun _ _ => rets_none) (List.Sublist.refl _) ⟨rfl, hH'⟩
  · subst h1
    refine c_skip ?_
    refine c_region ?_
    refine l_x (x_load rfl rfl (at_old hp hbp)) rfl rfl ?_
    rintro _ _ ⟨rfl, rfl⟩
    refine l_l rfl rfl rfl ?_
    refine l_l rfl rfl rfl ?_
    refine l_l (light_struct rfl rfl rfl rfl) rfl rfl ?_
    refine l_l (light_struct rfl rfl rfl rfl) rfl rfl ?_
    refine l_x (x_callA call_11 rfl (fun w hw => note_fn b keep noted cs ring hk1 hk2 hnt hcl _ w hL (St.lentA hw) (upS false) (upS_ok _))) rfl rfl ?_
    rintro _ G' ⟨rfl, hH'⟩
    refine l_nil ?_
    exact l_end (fun _ _ => rets_none) (List.Sublist.refl _) ⟨rfl, hH'⟩

end Go.Proofs.Ytmafgccagaihbaa
