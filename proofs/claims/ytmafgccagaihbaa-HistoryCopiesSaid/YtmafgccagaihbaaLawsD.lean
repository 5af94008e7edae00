/- Copies of a history. -/
import Derived.Test.YtmafgccagaihbaaAwake
import Derived.Test.YtmafgccagaihbaaNoted
import Derived.Test.YtmafgccagaihbaaSame
import Derived.Test.YtmafgccagaihbaaVvX
import Derived.Test.YtmafgccagaihbaaCalls
namespace Go.Proofs.Ytmafgccagaihbaa
open Go Go.VV Go.Proofs
set_option linter.unusedSimpArgs false
set_option linter.unusedVariables false
set_option maxRecDepth 100000
theorem copy_fn (b keep noted : Nat) (cs : List Cll) (ring : List Rcd) (hcl : cs.length < 1000000000) (w : World) (hW : HistW w b keep noted cs ring) :
    Does Try.prog 21 [.pointer (some ⟨b, 0, none⟩)] w [] (fun v H => ∃ b2, v = .pointer (some ⟨b2, 0, none⟩) ∧ HistH b2 keep noted cs ring H) := by
  obtain ⟨⟨a, c, q0, qc, qz, hS, hA⟩, q1, q2, q3, q4⟩ := hW
  refine does_of Try.func21 rfl rfl rfl (St.refl w) ?_
  refine c_seq ?_
  refine c_region ?_
  refine l_l rfl rfl rfl ?_
  refine l_nil ?_
  refine c_seq ?_
  refine c_seq ?_
  refine c_region ?_
  refine l_l rfl rfl rfl ?_
  refine l_l rfl rfl rfl ?_
  refine l_nil ?_
  refine c_false rfl ?_
  refine c_skip ?_
  refine c_seq ?_
  refine c_region ?_
  refine l_l rfl rfl rfl ?_
  refine l_l rfl rfl rfl ?_
  refine l_x (x_loadA rfl rfl (by rw [hC_len q3]; rfl) (row_old hA (by simp))) rfl rfl ?_
  rintro _ _ ⟨rfl, rfl⟩
  refine l_x (x_alloc (l := hC (.slice none 0 0) (List.replicate 32 r0) 0 0) (by kernel_rfl)) rfl rfl ?_
  rintro _ _ ⟨b3, rfl, rfl⟩
  refine l_x (x_store (vs := hC (.slice a cs.length c) ring keep noted) 0 rfl rfl rfl (by rw [hC_len q3]; rfl) ones_hC rfl (by rw [hC_len q3, hC_len (by simp)]; decide)) rfl rfl ?_
  rintro _ _ ⟨rfl, rfl⟩
  simp only [List.set_cons_zero]
  rw [putL_all (l := hC (.slice none 0 0) (List.replicate 32 r0) 0 0) (vs := hC (.slice a cs.length c) ring keep noted) (by rw [hC_len q3, hC_len (by simp)])]
  refine l_nil ?_
  refine c_seq ?_
  refine c_region ?_
  refine l_l rfl rfl rfl ?_
  refine l_l rfl rfl rfl ?_
  refine l_l (light_fa rfl rfl) rfl rfl ?_
  refine l_x (x_load rfl rfl (at_old q0 (by simp))) rfl rfl ?_
  rintro _ _ ⟨rfl, rfl⟩
  refine l_x (x_call call_26 rfl (fun w hw => clone_fn a c cs hcl w (hS.later0 hw))) rfl rfl ?_
  rintro v13 _ ⟨G13, hV13, rfl⟩
  obtain ⟨a13, c13, rfl⟩ := hV13.slice
  refine l_l (light_fa rfl rfl) rfl rfl ?_
  refine l_heap (H' := (b3, _) :: G13) (fun _ h => St.fl [G13, [_]] [1, 0] rfl h) ?_
  refine l_x (x_store 0 rfl rfl rfl rfl rfl rfl (by rw [hC_len q3]; simp)) rfl rfl ?_
  rintro _ _ ⟨rfl, rfl⟩
  simp only [List.set_cons_zero]
  rw [hC_setv]
  refine l_nil ?_
  refine c_seq ?_
  refine c_region ?_
  refine l_l rfl rfl rfl ?_
  refine l_nil ?_
  refine c_ret ?_
  exact l_end (fun _ _ => rets_v rfl) (List.Sublist.refl _) ⟨b3, rfl, _, _, rfl, hV13, q3⟩

theorem copy0_fn (w : World) : Does Try.prog 21 [.pointer none] w [] (fun v H => H = [] ∧ v = .pointer none) := by
  refine does_of Try.func21 rfl rfl rfl (St.refl w) ?_
  refine c_seq ?_
  refine c_region ?_
  refine l_l rfl rfl rfl ?_
  refine l_nil ?_
  refine c_seq ?_
  refine c_seq ?_
  refine c_region ?_
  refine l_l rfl rfl rfl ?_
  refine l_l rfl rfl rfl ?_
  refine l_nil ?_
  refine c_true rfl ?_
  refine c_seq ?_
  refine c_region ?_
  refine l_l rfl rfl rfl ?_
  refine l_nil ?_
  refine c_ret ?_
  exact l_end0 (fun _ _ => rets_v rfl) ⟨rfl, rfl⟩

theorem calls0_fn (w : World) : Does Try.prog 12 [.pointer none] w [] (fun v H => H = [] ∧ v = .slice none 0 0) := by
  refine does_of Try.func12 rfl rfl rfl (St.refl w) ?_
  refine c_seq ?_
  refine c_region ?_
  refine l_l rfl rfl rfl ?_
  refine l_nil ?_
  refine c_seq ?_
  refine c_seq ?_
  refine c_region ?_
  refine l_l rfl rfl rfl ?_
  refine l_l rfl rfl rfl ?_
  refine l_nil ?_
  refine c_true rfl ?_
  refine c_seq ?_
  refine c_region ?_
  refine l_l rfl rfl rfl ?_
  refine l_nil ?_
  refine c_ret ?_
  exact l_end0 (fun _ _ => rets_v rfl) ⟨rfl, rfl⟩

theorem records0_fn (w : World) : Does Try.prog 23 [.pointer none] w [] (fun v H => H = [] ∧ v = .slice none 0 0) := by
  refine does_of Try.func23 rfl rfl rfl (St.refl w) ?_
  refine c_seq ?_
  refine c_region ?_
  refine l_l rfl rfl rfl ?_
  refine l_nil ?_
  refine c_seq ?_
  refine c_seq ?_
  refine c_region ?_
  refine l_l rfl rfl rfl ?_
  refine l_l rfl rfl rfl ?_
  refine l_nil ?_
  refine c_true rfl ?_
  refine c_seq ?_
  refine c_region ?_
  refine l_l rfl rfl rfl ?_
  refine l_nil ?_
  refine c_ret ?_
  exact l_end0 (fun _ _ => rets_v rfl) ⟨rfl, rfl⟩

theorem note0_fn (n k : Int) (s : Stp) (t : Int) (w : World) : Does Try.prog 11 [.pointer none, .int .u64 n, .int .i64 k, .agg (cD s).toArray, .int .u16 t] w [] (fun v H => H = [] ∧ v = .tuple #[]) := by
  refine does_of Try.func11 rfl rfl rfl (St.refl w) ?_
  refine c_seq ?_
  refine c_region ?_
  refine l_x (x_box rfl rfl) rfl rfl ?_
  rintro _ _ ⟨b8, rfl, rfl⟩
  refine l_nil ?_
  refine c_seq ?_
  refine c_seq ?_
  refine c_region ?_
  refine l_l rfl rfl rfl ?_
  refine l_l rfl rfl rfl ?_
  refine l_nil ?_
  refine c_true rfl ?_
  refine c_ret ?_
  exact l_end0 (fun _ _ => rets_none) ⟨rfl, rfl⟩

theorem four_ways (a b : Nat) : (a = 0 ∧ b = 0) ∨ (a = 0 ∧ 0 < b) ∨ (0 < a ∧ b = 0) ∨ (0 < a ∧ 0 < b) := by omega
theorem ones_S (s : Stp) : ones (cS s) = true := rfl
theorem take_app {l more : List Stp} {k : Nat} {s : Stp} (h : more[k]? = some s) : l ++ more.take (k + 1) = l ++ more.take k ++ [s] := by rw [get_part h, List.append_assoc]

set_option maxHeartbeats 2000000 in
theorem copies_fn (a : Option Addr) (c : Nat) (l : List Stp) (hok : ∀ s ∈ l, StpOk s) (hc : l.length ≤ c) (a2 : Option Addr) (c2 : Nat) (more : List Stp) (hok2 : ∀ s ∈ more, StpOk s) (keep : Int) (w : World) (hE : Els w cS a l) (hE2 : Els w cS a2 more) :
    Does Try.prog 8 [.slice a l.length c, .slice a2 more.length c2, .int .i64 keep] w [] (fun v H => H = [] ∧ v = .bool true) := by
  refine does_of Try.func8 rfl rfl rfl (St.refl w) ?_
  refine c_seq ?_
  refine c_region ?_
  refine l_l rfl rfl rfl ?_
  refine l_nil ?_
  refine c_seq ?_
  refine c_seq ?_
  refine c_region ?_
  refine l_x (x_val call_9 rfl (fun w hw => awake_fn w)) rfl rfl ?_
  rintro _ _ ⟨rfl, rfl⟩
  refine l_sure false rfl rfl rfl rfl ?_
  refine l_l rfl rfl rfl ?_
  refine l_l rfl rfl rfl ?_
  refine l_l (by first | exact light_len rfl rfl | exact light_lens rfl rfl | rfl) rfl rfl ?_
  refine l_l rfl rfl rfl ?_
  refine l_l rfl rfl rfl ?_
  refine l_b rfl rfl rfl (fun h1 => ?_) (fun h1 => ?_)
  · refine l_p rfl rfl ?_
    refine l_p rfl rfl ?_
    refine l_p rfl rfl ?_
    refine l_l rfl rfl rfl ?_
    refine l_nil ?_
    refine c_true rfl ?_
    refine c_seq ?_
    refine c_region ?_
    refine l_x (x_val call_9 rfl (fun w hw => awake_fn w)) rfl rfl ?_
    rintro _ _ ⟨rfl, rfl⟩
    refine l_l rfl rfl rfl ?_
    refine l_nil ?_
    refine c_ret ?_
    exact l_end0 (fun _ _ => rets_v rfl) ⟨rfl, rfl⟩
  · refine l_l rfl rfl rfl ?_
    refine l_l (by first | exact light_len rfl rfl | exact light_lens rfl rfl | rfl) rfl rfl ?_
    refine l_l rfl rfl rfl ?_
    refine l_l rfl rfl rfl ?_
    refine l_nil ?_
    refine c_cond rfl (fun h2 => ?_) (fun h2 => ?_)
    · refine c_seq ?_
      refine c_region ?_
      refine l_x (x_val call_9 rfl (fun w hw => awake_fn w)) rfl rfl ?_
      rintro _ _ ⟨rfl, rfl⟩
      refine l_l rfl rfl rfl ?_
      refine l_nil ?_
      refine c_ret ?_
      exact l_end0 (fun _ _ => rets_v rfl) ⟨rfl, rfl⟩
    · refine c_skip ?_
      refine c_seq ?_
      have hl7 : l.length ≤ 700 := by (try simp only [decide_eq_true_eq, decide_eq_false_iff_not, beq_iff_eq, beq_eq_false_iff_ne, bne_iff_ne, bne_eq_false_iff_eq, ne_eq] at *); omega
      have hm7 : more.length ≤ 700 := by (try simp only [decide_eq_true_eq, decide_eq_false_iff_not, beq_iff_eq, beq_eq_false_iff_ne, bne_iff_ne, bne_eq_false_iff_eq, ne_eq] at *); omega
      refine c_region ?_
      refine l_l rfl rfl rfl ?_
      refine l_l rfl rfl rfl ?_
      refine l_x (x_call call_13 rfl (fun w hw => noted_fn a c l hok (by (try simp only [decide_eq_true_eq, decide_eq_false_iff_not, beq_iff_eq, beq_eq_false_iff_ne, bne_iff_ne, bne_eq_false_iff_eq, ne_eq] at *); omega) keep w (hE.later0 hw))) rfl rfl ?_
      rintro _ _ ⟨G30, ⟨b30, ring0, rfl, hH30, hR30⟩, rfl⟩
      refine l_l rfl rfl rfl ?_
      refine l_nil ?_
      refine c_seq ?_
      refine c_region ?_
      refine l_l rfl rfl rfl ?_
      refine l_x (x_call call_21 rfl (fun w hw => copy_fn b30 _ _ _ _ (by have := callsL_len l; omega) w (hH30.histW hw (fun x hx => by repeat (first | exact hx | exact List.mem_append_left _ hx | refine List.mem_append_right _ ?_ | refine .tail _ ?_))))) rfl rfl ?_
      rintro _ _ ⟨G32, ⟨b32, rfl, hH32⟩, rfl⟩
      refine l_l rfl rfl rfl ?_
      refine l_nil ?_
      refine c_seq ?_
      refine c_seq ?_
      refine c_region ?_
      refine l_l rfl rfl rfl ?_
      refine l_l rfl rfl rfl ?_
      refine l_l rfl rfl rfl ?_
      refine l_l rfl rfl rfl ?_
      refine l_l rfl rfl rfl ?_
      refine l_l rfl rfl rfl ?_
      refine l_x (x_val call_15 rfl (fun w hw => same_fn b32 ring0 a c l hok (by omega) hc keep hR30 w (hH32.histW hw (fun x hx => by repeat (first | exact hx | exact List.mem_append_left _ hx | refine List.mem_append_right _ ?_ | refine .tail _ ?_))) (hE.later0 hw))) rfl rfl ?_
      rintro _ _ ⟨rfl, rfl⟩
      refine l_sure false rfl rfl rfl rfl ?_
      refine l_l rfl rfl rfl ?_
      refine l_nil ?_
      refine c_false rfl ?_
      refine c_skip ?_
      refine c_seq ?_
      refine c_seq ?_
      refine c_region ?_
      refine l_l rfl rfl rfl ?_
      refine l_l (by first | exact light_len rfl rfl | exact light_lens rfl rfl | rfl) rfl rfl ?_
      refine l_l rfl rfl rfl ?_
      refine l_nil ?_
      refine c_block ?_
      refine c_loop (σ := Nat × List Rcd × Heap) [9, 44, 45, 46, 47, 48, 49, 50, 51, 52, 53, 54, 55, 56, 57, 58, 59, 60, 61, 62, 63, 64, 65, 66, 67, 68, 69, 70] (fun s => [(44, .int .i64 s.1)]) (fun s => s.2.2 ++ G30) (fun s => s.1 ≤ more.length ∧ HistH b32 (kp keep) (l.length + s.1) (callsL (l ++ more.take s.1)) s.2.1 s.2.2 ∧ RingOk (kp keep) s.2.1 (l ++ more.take s.1)) (fun s => more.length - s.1) (0, ring0, G32) ?_ ?_ ?_ ?_
      · exact ⟨Nat.zero_le _, by simpa using hH32, by simpa using hR30⟩
      · exact .cons rfl .nil
      · exact fun _ h => h.as (by simp)
      · rintro ⟨k, ring, G⟩ y8 ⟨hk, hH, hR⟩
        dsimp only at hk hH hR ⊢
        refine c_seq ?_
        refine c_region ?_
        refine l_l rfl rfl rfl ?_
        refine l_nil ?_
        refine c_seq ?_
        refine c_cond rfl (fun h3 => ?_) (fun h3 => ?_)
        · refine c_skip ?_
          refine c_seq ?_
          refine c_block ?_
          refine c_seq ?_
          refine c_region ?_
          refine l_l rfl rfl rfl ?_
          refine l_l rfl rfl rfl ?_
          refine l_nil ?_
          obtain ⟨bl, ol, rfl, hr⟩ := hE2.row (i := k) (by (try simp only [decide_eq_true_eq, decide_eq_false_iff_not, beq_iff_eq, beq_eq_false_iff_ne, bne_iff_ne, bne_eq_false_iff_eq, ne_eq] at *); omega)
          obtain ⟨s, hg⟩ : ∃ s, more[k]? = some s := ⟨_, get_some (by (try simp only [decide_eq_true_eq, decide_eq_false_iff_not, beq_iff_eq, beq_eq_false_iff_ne, bne_iff_ne, bne_eq_false_iff_eq, ne_eq] at *); omega)⟩
          have hso := hok2 s (List.mem_of_getElem? hg)
          refine c_draw _ [6, 7, 8, 9, 10, 11, 12, 13, 14, 15, 16, 17, 18, 19, 20, 21] (.step true 0 (.step true 1 (.step true 2 (.step true 3 (.step true 4 (.step true 5 (.step true 6 (.step true 7 (.step true 8 (.step true 9 (.step true 10 (.step true 11 (.step true 12 (.step true 13 (.step true 14 (.step true 15 (.step true 17 (.step true 18 (.step true 19 (.step true 20 (.step true 21 (.step false 16 (.step false 22 .done))))))))))))))))))))))) rfl (by kernel_rfl) (by kernel_rfl) (fun _ h => h) ?_
          refine d_light rfl rfl rfl rfl rfl ?_
          refine d_light rfl rfl rfl rfl rfl ?_
          refine d_light rfl rfl rfl rfl rfl ?_
          refine d_light rfl (idx_slice (s := 12) k rfl rfl rfl rfl (by (try simp only [decide_eq_true_eq, decide_eq_false_iff_not, beq_iff_eq, beq_eq_false_iff_ne, bne_iff_ne, bne_eq_false_iff_eq, ne_eq] at *); omega)) rfl rfl rfl ?_
          refine d_light rfl (light_fa rfl rfl) rfl rfl rfl ?_
          refine d_load rfl rfl rfl (fun w hw => (srow_old hr (by simp) w hw).at cS_len hg 0 rfl) rfl rfl ?_
          refine d_light rfl rfl rfl rfl rfl ?_
          refine d_light rfl rfl rfl rfl rfl ?_
          refine d_light rfl (idx_slice (s := 12) k rfl rfl rfl rfl (by (try simp only [decide_eq_true_eq, decide_eq_false_iff_not, beq_iff_eq, beq_eq_false_iff_ne, bne_iff_ne, bne_eq_false_iff_eq, ne_eq] at *); omega)) rfl rfl rfl ?_
          refine d_light rfl (light_fa rfl rfl) rfl rfl rfl ?_
          refine d_load rfl rfl rfl (fun w hw => (srow_old hr (by simp) w hw).at cS_len hg 1 rfl) rfl rfl ?_
          refine d_light rfl rfl rfl rfl rfl ?_
          refine d_light rfl rfl rfl rfl rfl ?_
          refine d_light rfl (idx_slice (s := 12) k rfl rfl rfl rfl (by (try simp only [decide_eq_true_eq, decide_eq_false_iff_not, beq_iff_eq, beq_eq_false_iff_ne, bne_iff_ne, bne_eq_false_iff_eq, ne_eq] at *); omega)) rfl rfl rfl ?_
          refine d_light rfl (light_fa rfl rfl) rfl rfl rfl ?_
          refine d_loadA rfl rfl rfl rfl (fun w hw => (srow_old hr (by simp) w hw).part cS_len hg 2 9 rfl) rfl rfl ?_
          refine d_light rfl rfl rfl rfl rfl ?_
          refine d_light rfl rfl rfl rfl rfl ?_
          refine d_light rfl (idx_slice (s := 12) k rfl rfl rfl rfl (by (try simp only [decide_eq_true_eq, decide_eq_false_iff_not, beq_iff_eq, beq_eq_false_iff_ne, bne_iff_ne, bne_eq_false_iff_eq, ne_eq] at *); omega)) rfl rfl rfl ?_
          refine d_light rfl (light_fa rfl rfl) rfl rfl rfl ?_
          refine d_load rfl rfl rfl (fun w hw => (srow_old hr (by simp) w hw).at cS_len hg 11 rfl) rfl rfl ?_
          refine d_x rfl (x_val call_22 rfl (fun w hw => did_fn s w)) rfl rfl (by intro _ _ _ hK x hx; obtain ⟨rfl, rfl⟩ := hK; repeat (first | exact hx | exact List.mem_append_left _ hx | refine List.mem_append_right _ ?_ | refine .tail _ ?_)) ?_
          rintro _ _ ⟨rfl, rfl⟩
          refine d_x rfl (x_callF (A := G) (G := G30) (G.map (·.1)) call_11 rfl (fun _ hb => mem_fst hb) (fun w hw => note_fn b32 (kp keep) (l.length + k) _ ring (kp_ok keep).1 (kp_ok keep).2 (by omega) (callsL_len _) G w hH (St.lentV hw) s hso)) rfl rfl (by intro h; cases h) ?_
          rintro _ _ ⟨G', ⟨rfl, hH'⟩, rfl⟩
          rw [← callsL_snoc, ← take_app hg] at hH'
          have hR' := hR.step (kp_ok keep).1 (kp_ok keep).2 s
          rw [← take_app hg, List.length_append, List.length_take, Nat.min_eq_left (by (try simp only [decide_eq_true_eq, decide_eq_false_iff_not, beq_iff_eq, beq_eq_false_iff_ne, bne_iff_ne, bne_eq_false_iff_eq, ne_eq] at *); omega)] at hR'
          refine d_nil ?_
          refine c_region ?_
          refine l_as (v := (.int .i64 ((k + 1 : Nat) : Int))) rfl rfl rfl (congrArg _ (succ_law (by omega))) ?_
          refine l_l rfl rfl rfl ?_
          refine l_nil ?_
          exact ⟨(k + 1, _, G'), ⟨by (try simp only [decide_eq_true_eq, decide_eq_false_iff_not, beq_iff_eq, beq_eq_false_iff_ne, bne_iff_ne, bne_eq_false_iff_eq, ne_eq] at *); omega, hH', hR'⟩, by (try simp only [decide_eq_true_eq, decide_eq_false_iff_not, beq_iff_eq, beq_eq_false_iff_ne, bne_iff_ne, bne_eq_false_iff_eq, ne_eq] at *); omega, .cons rfl .nil, (by repeat (first | exact Agree.refl _ _ | exact Agree.mix rfl | refine Agree.put rfl ?_ | refine Agree.keep rfl ?_)), fun _ h => h⟩
        · refine c_exit rfl ?_
          refine c_seq ?_
          obtain rfl : more.length = k := by (try simp only [decide_eq_true_eq, decide_eq_false_iff_not, beq_iff_eq, beq_eq_false_iff_ne, bne_iff_ne, bne_eq_false_iff_eq, ne_eq] at *); omega
          rw [List.take_length] at hH hR
          refine c_region ?_
          refine l_l rfl rfl rfl ?_
          refine l_x (x_call call_12 rfl (fun w hw => calls_fn b30 _ _ _ _ (by have := callsL_len l; omega) w (hH30.histW hw (fun x hx => by repeat (first | exact hx | exact List.mem_append_left _ hx | refine List.mem_append_right _ ?_ | refine .tail _ ?_))))) rfl rfl ?_
          rintro v72 _ ⟨G72, hV72, rfl⟩
          obtain ⟨a72, c72, rfl⟩ := hV72.slice
          refine l_l rfl rfl rfl ?_
          refine l_x (x_call call_23 rfl (fun w hw => records_fn b30 _ _ ring0 l (kp_ok keep).1 (kp_ok keep).2 (by omega) hR30 w (hH30.histW hw (fun x hx => by repeat (first | exact hx | exact List.mem_append_left _ hx | refine List.mem_append_right _ ?_ | refine .tail _ ?_))))) rfl rfl ?_
          rintro v74 _ ⟨G74, hV74, rfl⟩
          obtain ⟨a74, c74, rfl⟩ := hV74.slice
          refine l_l rfl rfl rfl ?_
          refine l_l rfl rfl rfl ?_
          refine l_nil ?_
          refine c_seq ?_
          refine c_seq ?_
          refine c_heap (L' := G72 ++ (G74 ++ (G ++ G30))) (fun _ h => St.fl [G74, G72, G, G30] [1, 0, 2, 3] rfl h) ?_
          refine c_region ?_
          refine l_l rfl rfl rfl ?_
          refine l_l (by first | exact light_len rfl rfl | exact light_lens rfl rfl | rfl) rfl rfl ?_
          refine l_l rfl rfl rfl ?_
          refine l_nil ?_
          refine c_block ?_
          refine c_loop (σ := Nat × List Cll × Heap) [12, 77, 78, 79, 80, 81, 82, 83, 84, 85, 86, 87, 88] (fun s => [(77, .int .i64 s.1)]) (fun s => s.2.2 ++ (G74 ++ (G ++ G30))) (fun s => s.1 ≤ (callsL l).length ∧ s.2.1.length = (callsL l).length ∧ Vec 35 5 (.slice a72 (callsL l).length c72) (callsL l).length (flat cC s.2.1) s.2.2) (fun s => (callsL l).length - s.1) (0, callsL l, G72) ?_ ?_ ?_ ?_
          · exact ⟨Nat.zero_le _, rfl, hV72⟩
          · exact .cons rfl .nil
          · exact fun _ h => h
          · rintro ⟨i, xs, GV⟩ y14 ⟨hi, hxl, hVc⟩
            dsimp only at hi hxl hVc ⊢
            have hcl9 := callsL_len l
            refine c_seq ?_
            refine c_region ?_
            refine l_l rfl rfl rfl ?_
            refine l_nil ?_
            refine c_seq ?_
            refine c_cond rfl (fun h4 => ?_) (fun h4 => ?_)
            · refine c_skip ?_
              refine c_seq ?_
              refine c_block ?_
              refine c_seq ?_
              refine c_region ?_
              refine l_l rfl rfl rfl ?_
              refine l_l rfl rfl rfl ?_
              refine l_nil ?_
              obtain ⟨bq, cq, sq, hq, rfl, hzq, hlq, hxq⟩ := hVc.full (by (try simp only [decide_eq_true_eq, decide_eq_false_iff_not, beq_iff_eq, beq_eq_false_iff_ne, bne_iff_ne, bne_eq_false_iff_eq, ne_eq] at *); omega)
              cases hq
              obtain ⟨x, hgx⟩ : ∃ x, xs[i]? = some x := ⟨_, get_some (by rw [hxl]; (try simp only [decide_eq_true_eq, decide_eq_false_iff_not, beq_iff_eq, beq_eq_false_iff_ne, bne_iff_ne, bne_eq_false_iff_eq, ne_eq] at *); omega)⟩
              have hix := (List.getElem?_eq_some_iff.1 hgx).1
              refine c_region ?_
              refine l_l rfl rfl rfl ?_
              refine l_l rfl rfl rfl ?_
              refine l_l (idx_slice (s := 5) i rfl rfl rfl rfl (by (try simp only [decide_eq_true_eq, decide_eq_false_iff_not, beq_iff_eq, beq_eq_false_iff_ne, bne_iff_ne, bne_eq_false_iff_eq, ne_eq] at *); omega)) rfl rfl ?_
              refine l_l (light_fa rfl rfl) rfl rfl ?_
              refine l_x (x_load rfl rfl (fun w hw => (row_own (.head _) w hw).left.at cC_len hgx 2 rfl)) rfl rfl ?_
              rintro _ _ ⟨rfl, rfl⟩
              refine l_l rfl rfl rfl ?_
              refine l_l (idx_slice (s := 5) i rfl rfl rfl rfl (by (try simp only [decide_eq_true_eq, decide_eq_false_iff_not, beq_iff_eq, beq_eq_false_iff_ne, bne_iff_ne, bne_eq_false_iff_eq, ne_eq] at *); omega)) rfl rfl ?_
              refine l_l (light_fa rfl rfl) rfl rfl ?_
              refine l_x (x_store 0 rfl rfl rfl rfl rfl rfl (flat_room cC_len xs sq hix (by decide))) rfl rfl ?_
              rintro _ _ ⟨rfl, rfl⟩
              simp only [List.set_cons_zero]
              rw [putL_cell cC_len xs sq (y := { x with at_ := bxor .u16 x.at_ 1 }) hgx (by decide) rfl]
              refine l_nil ?_
              refine c_region ?_
              refine l_as (v := (.int .i64 ((i + 1 : Nat) : Int))) rfl rfl rfl (congrArg _ (succ_law (by omega))) ?_
              refine l_l rfl rfl rfl ?_
              refine l_nil ?_
              exact ⟨(i + 1, xs.set i { x with at_ := bxor .u16 x.at_ 1 }, [(bq, blk (flat cC (xs.set i { x with at_ := bxor .u16 x.at_ 1 }) ++ sq) 35)]), ⟨by (try simp only [decide_eq_true_eq, decide_eq_false_iff_not, beq_iff_eq, beq_eq_false_iff_ne, bne_iff_ne, bne_eq_false_iff_eq, ne_eq] at *); omega, by rw [List.length_set]; exact hxl, by have h9 := Vec.all_ (T := 35) (b := bq) (cap := c72) (l := xs.set i { x with at_ := bxor .u16 x.at_ 1 }) (sp := sq) cC_len (by rw [List.length_append, flat_len cC_len, List.length_set]; rw [List.length_append, flat_len cC_len] at hzq; exact hzq) (by rw [List.length_set]; omega) hxq; rw [List.length_set, hxl] at h9; exact h9⟩, by (try simp only [decide_eq_true_eq, decide_eq_false_iff_not, beq_iff_eq, beq_eq_false_iff_ne, bne_iff_ne, bne_eq_false_iff_eq, ne_eq] at *); omega, .cons rfl .nil, (by repeat (first | exact Agree.refl _ _ | exact Agree.mix rfl | refine Agree.put rfl ?_ | refine Agree.keep rfl ?_)), fun _ h => h⟩
            · refine c_exit rfl ?_
              refine c_seq ?_
              refine c_seq ?_
              refine c_region ?_
              refine l_l rfl rfl rfl ?_
              refine l_l (by first | exact light_len rfl rfl | exact light_lens rfl rfl | rfl) rfl rfl ?_
              refine l_l rfl rfl rfl ?_
              refine l_nil ?_
              refine c_block ?_
              refine c_loop (σ := Nat × List Rcd × Heap) [13, 91, 92, 93, 94, 95, 96, 97, 98, 99, 100, 101, 102] (fun s => [(91, .int .i64 s.1)]) (fun s => s.2.2 ++ (GV ++ (G ++ G30))) (fun s => s.1 ≤ (lastL l (kp keep)).length ∧ s.2.1.length = (lastL l (kp keep)).length ∧ Vec 73 9 (.slice a74 (lastL l (kp keep)).length c74) (lastL l (kp keep)).length (flat cR s.2.1) s.2.2) (fun s => (lastL l (kp keep)).length - s.1) (0, (lastL l (kp keep)).map recOf, G74) ?_ ?_ ?_ ?_
              · exact ⟨Nat.zero_le _, by simp, hV74⟩
              · exact .cons rfl .nil
              · exact fun _ h => St.fl [GV, G74, G, G30] [1, 0, 2, 3] rfl h
              · rintro ⟨i, xs, GW⟩ y19 ⟨hi, hxl, hVc⟩
                dsimp only at hi hxl hVc ⊢
                have hll9 := lastL_len l (kp keep)
                refine c_seq ?_
                refine c_region ?_
                refine l_l rfl rfl rfl ?_
                refine l_nil ?_
                refine c_seq ?_
                refine c_cond rfl (fun h5 => ?_) (fun h5 => ?_)
                · refine c_skip ?_
                  refine c_seq ?_
                  refine c_block ?_
                  refine c_seq ?_
                  refine c_region ?_
                  refine l_l rfl rfl rfl ?_
                  refine l_l rfl rfl rfl ?_
                  refine l_nil ?_
                  obtain ⟨bq, cq, sq, hq, rfl, hzq, hlq, hxq⟩ := hVc.full (by (try simp only [decide_eq_true_eq, decide_eq_false_iff_not, beq_iff_eq, beq_eq_false_iff_ne, bne_iff_ne, bne_eq_false_iff_eq, ne_eq] at *); omega)
                  cases hq
                  obtain ⟨x, hgx⟩ : ∃ x, xs[i]? = some x := ⟨_, get_some (by rw [hxl]; (try simp only [decide_eq_true_eq, decide_eq_false_iff_not, beq_iff_eq, beq_eq_false_iff_ne, bne_iff_ne, bne_eq_false_iff_eq, ne_eq] at *); omega)⟩
                  have hix := (List.getElem?_eq_some_iff.1 hgx).1
                  refine c_region ?_
                  refine l_l rfl rfl rfl ?_
                  refine l_l rfl rfl rfl ?_
                  refine l_l (idx_slice (s := 9) i rfl rfl rfl rfl (by (try simp only [decide_eq_true_eq, decide_eq_false_iff_not, beq_iff_eq, beq_eq_false_iff_ne, bne_iff_ne, bne_eq_false_iff_eq, ne_eq] at *); omega)) rfl rfl ?_
                  refine l_l (light_fa rfl rfl) rfl rfl ?_
                  refine l_x (x_load rfl rfl (fun w hw => (row_own (by repeat (first | exact .head _ | refine .tail _ ?_ | refine List.mem_append_right _ ?_)) w hw).left.at cR_len hgx 0 rfl)) rfl rfl ?_
                  rintro _ _ ⟨rfl, rfl⟩
                  refine l_l rfl rfl rfl ?_
                  refine l_l (idx_slice (s := 9) i rfl rfl rfl rfl (by (try simp only [decide_eq_true_eq, decide_eq_false_iff_not, beq_iff_eq, beq_eq_false_iff_ne, bne_iff_ne, bne_eq_false_iff_eq, ne_eq] at *); omega)) rfl rfl ?_
                  refine l_l (light_fa rfl rfl) rfl rfl ?_
                  refine l_x (x_store 0 rfl rfl rfl rfl rfl rfl (flat_room cR_len xs sq hix (by decide))) rfl rfl ?_
                  rintro _ _ ⟨rfl, rfl⟩
                  simp only [List.set_cons_zero]
                  rw [putL_cell (j := 0) cR_len xs sq (y := { x with n := IntKind.u64.wrap (x.n + 1) }) hgx (by decide) rfl]
                  refine l_nil ?_
                  refine c_region ?_
                  refine l_as (v := (.int .i64 ((i + 1 : Nat) : Int))) rfl rfl rfl (congrArg _ (succ_law (by omega))) ?_
                  refine l_l rfl rfl rfl ?_
                  refine l_nil ?_
                  exact ⟨(i + 1, xs.set i { x with n := IntKind.u64.wrap (x.n + 1) }, [(bq, blk (flat cR (xs.set i { x with n := IntKind.u64.wrap (x.n + 1) }) ++ sq) 73)]), ⟨by (try simp only [decide_eq_true_eq, decide_eq_false_iff_not, beq_iff_eq, beq_eq_false_iff_ne, bne_iff_ne, bne_eq_false_iff_eq, ne_eq] at *); omega, by rw [List.length_set]; exact hxl, by have h9 := Vec.all_ (T := 73) (b := bq) (cap := c74) (l := xs.set i { x with n := IntKind.u64.wrap (x.n + 1) }) (sp := sq) cR_len (by rw [List.length_append, flat_len cR_len, List.length_set]; rw [List.length_append, flat_len cR_len] at hzq; exact hzq) (by rw [List.length_set]; omega) hxq; rw [List.length_set, hxl] at h9; exact h9⟩, by (try simp only [decide_eq_true_eq, decide_eq_false_iff_not, beq_iff_eq, beq_eq_false_iff_ne, bne_iff_ne, bne_eq_false_iff_eq, ne_eq] at *); omega, .cons rfl .nil, (by repeat (first | exact Agree.refl _ _ | exact Agree.mix rfl | refine Agree.put rfl ?_ | refine Agree.keep rfl ?_)), fun _ h => h⟩
                · refine c_exit rfl ?_
                  refine c_seq ?_
                  refine c_region ?_
                  refine l_l rfl rfl rfl ?_
                  refine l_nil ?_
                  refine c_seq ?_
                  refine c_region ?_
                  refine l_l rfl rfl rfl ?_
                  refine l_l (light_struct rfl rfl rfl rfl) rfl rfl ?_
                  refine l_x (x_val call_11 rfl (fun w hw => note0_fn 0 0 ⟨0, 0, 0, 0, 0, 0, 0, 0, 0, 0, false, 0⟩ 0 w)) rfl rfl ?_
                  rintro _ _ ⟨rfl, rfl⟩
                  refine l_nil ?_
                  refine c_seq ?_
                  rw [← List.length_append] at hH
                  rcases four_ways l.length more.length with ⟨hl0, hm0⟩ | ⟨hl0, hm0⟩ | ⟨hl0, hm0⟩ | ⟨hl0, hm0⟩
                  · refine c_region ?_
                    refine l_l rfl rfl rfl ?_
                    refine l_l rfl rfl rfl ?_
                    refine l_l rfl rfl rfl ?_
                    refine l_x (x_val call_15 rfl (fun w hw => same_fn b30 ring0 a c l hok (by omega) hc keep hR30 w (hH30.histW hw (fun x hx => by repeat (first | exact hx | exact List.mem_append_left _ hx | refine List.mem_append_right _ ?_ | refine .tail _ ?_))) (hE.later0 hw))) rfl rfl ?_
                    rintro _ _ ⟨rfl, rfl⟩
                    refine l_sure true rfl rfl rfl rfl ?_
                    refine l_l rfl rfl rfl ?_
                    refine l_x (x_slc0 (el := 68) (n := 12) rfl) rfl rfl ?_
                    rintro _ _ ⟨b112, rfl, rfl⟩
                    refine l_l rfl rfl rfl ?_
                    refine l_x (x_appendZ rfl rfl hl0 rfl rfl (Nat.le_refl 0)) rfl rfl ?_
                    rintro _ _ ⟨rfl, rfl⟩
                    refine l_l rfl rfl rfl ?_
                    refine l_x (x_appendZ rfl rfl hm0 rfl rfl (Nat.le_refl 0)) rfl rfl ?_
                    rintro _ _ ⟨rfl, rfl⟩
                    obtain rfl := List.eq_nil_of_length_eq_zero hl0
                    obtain rfl := List.eq_nil_of_length_eq_zero hm0
                    rw [List.append_nil] at hH hR
                    refine l_l rfl rfl rfl ?_
                    refine l_x (x_val call_15 rfl (fun w hw => same_fn b32 ring _ _ [] (fun s hs => by cases hs) (by simp) (Nat.le_refl 0) keep hR w (hH.histW hw (fun x hx => by repeat (first | exact hx | exact List.mem_append_left _ hx | refine List.mem_append_right _ ?_ | refine .tail _ ?_))) (Els.nil _ _ _))) rfl rfl ?_
                    rintro _ _ ⟨rfl, rfl⟩
                    refine l_l rfl rfl rfl ?_
                    refine l_sure true rfl rfl rfl rfl ?_
                    refine l_l rfl rfl rfl ?_
                    refine l_x (x_val call_21 rfl (fun w hw => copy0_fn w)) rfl rfl ?_
                    rintro _ _ ⟨rfl, rfl⟩
                    refine l_l rfl rfl rfl ?_
                    refine l_l rfl rfl rfl ?_
                    refine l_l rfl rfl rfl ?_
                    refine l_l rfl rfl rfl ?_
                    refine l_x (x_val call_12 rfl (fun w hw => calls0_fn w)) rfl rfl ?_
                    rintro _ _ ⟨rfl, rfl⟩
                    refine l_l (by first | exact light_len rfl rfl | exact light_lens rfl rfl | rfl) rfl rfl ?_
                    refine l_l rfl rfl rfl ?_
                    refine l_x (x_val call_23 rfl (fun w hw => records0_fn w)) rfl rfl ?_
                    rintro _ _ ⟨rfl, rfl⟩
                    refine l_l (by first | exact light_len rfl rfl | exact light_lens rfl rfl | rfl) rfl rfl ?_
                    refine l_l rfl rfl rfl ?_
                    refine l_sure true rfl rfl rfl rfl ?_
                    refine l_l rfl rfl rfl ?_
                    refine l_l rfl rfl rfl ?_
                    refine l_nil ?_
                    refine c_ret ?_
                    exact l_end0 (fun _ _ => rets_v rfl) ⟨rfl, rfl⟩
                  · refine c_region ?_
                    refine l_l rfl rfl rfl ?_
                    refine l_l rfl rfl rfl ?_
                    refine l_l rfl rfl rfl ?_
                    refine l_x (x_val call_15 rfl (fun w hw => same_fn b30 ring0 a c l hok (by omega) hc keep hR30 w (hH30.histW hw (fun x hx => by repeat (first | exact hx | exact List.mem_append_left _ hx | refine List.mem_append_right _ ?_ | refine .tail _ ?_))) (hE.later0 hw))) rfl rfl ?_
                    rintro _ _ ⟨rfl, rfl⟩
                    refine l_sure true rfl rfl rfl rfl ?_
                    refine l_l rfl rfl rfl ?_
                    refine l_x (x_slc0 (el := 68) (n := 12) rfl) rfl rfl ?_
                    rintro _ _ ⟨b112, rfl, rfl⟩
                    refine l_l rfl rfl rfl ?_
                    refine l_x (x_appendZ rfl rfl hl0 rfl rfl (Nat.le_refl 0)) rfl rfl ?_
                    rintro _ _ ⟨rfl, rfl⟩
                    refine l_l rfl rfl rfl ?_
                    obtain ⟨bm9, om9, e8, hrm⟩ := hE2 hm0
                    subst e8
                    refine l_x (x_append (A := []) (G := [(b112, blk [] 68)]) (R := _) (v := (.slice (some ⟨b112, 0, none⟩) 0 0)) (n := 0) (xs := []) (m := more.length) (T := 68) (s := 12) (by_ := 96) (ys := flat cS more) rfl rfl rfl rfl (.row b112 0 0 [] [] rfl rfl (by decide) (Nat.le_refl 0)) (fun w hw => .row _ _ _ _ _ (flat_len cS_len more) (row_old hrm (by simp) w hw)) (ones_flat_of ones_S _) (by omega) (by omega)) rfl rfl ?_
                    rintro v116 _ ⟨G116, hV116, hn116, rfl⟩
                    obtain rfl := List.eq_nil_of_length_eq_zero hl0
                    have hV9 : Vec 68 12 v116 (([] : List Stp) ++ more).length (flat cS (([] : List Stp) ++ more)) G116 := hV116.as (by simp) (by simp [flat_append, flat_nil])
                    obtain ⟨a9, c9, rfl, _, hcm, hgE⟩ := hV9.gives cS_len (by decide)
                    refine l_l rfl rfl rfl ?_
                    refine l_x (x_val call_15 rfl (fun w hw => same_fn b32 ring _ _ ([] ++ more) (fun s hs => hok2 s hs) (by simp; omega) hcm keep hR w (hH.histW hw (fun x hx => by repeat (first | exact hx | exact List.mem_append_left _ hx | refine List.mem_append_right _ ?_ | refine .tail _ ?_))) (hgE.els hw (fun x hx => by repeat (first | exact hx | exact List.mem_append_left _ hx | refine List.mem_append_right _ ?_ | refine .tail _ ?_))))) rfl rfl ?_
                    rintro _ _ ⟨rfl, rfl⟩
                    refine l_l rfl rfl rfl ?_
                    refine l_sure true rfl rfl rfl rfl ?_
                    refine l_l rfl rfl rfl ?_
                    refine l_x (x_val call_21 rfl (fun w hw => copy0_fn w)) rfl rfl ?_
                    rintro _ _ ⟨rfl, rfl⟩
                    refine l_l rfl rfl rfl ?_
                    refine l_l rfl rfl rfl ?_
                    refine l_l rfl rfl rfl ?_
                    refine l_l rfl rfl rfl ?_
                    refine l_x (x_val call_12 rfl (fun w hw => calls0_fn w)) rfl rfl ?_
                    rintro _ _ ⟨rfl, rfl⟩
                    refine l_l (by first | exact light_len rfl rfl | exact light_lens rfl rfl | rfl) rfl rfl ?_
                    refine l_l rfl rfl rfl ?_
                    refine l_x (x_val call_23 rfl (fun w hw => records0_fn w)) rfl rfl ?_
                    rintro _ _ ⟨rfl, rfl⟩
                    refine l_l (by first | exact light_len rfl rfl | exact light_lens rfl rfl | rfl) rfl rfl ?_
                    refine l_l rfl rfl rfl ?_
                    refine l_sure true rfl rfl rfl rfl ?_
                    refine l_l rfl rfl rfl ?_
                    refine l_l rfl rfl rfl ?_
                    refine l_nil ?_
                    refine c_ret ?_
                    exact l_end0 (fun _ _ => rets_v rfl) ⟨rfl, rfl⟩
                  · refine c_region ?_
                    refine l_l rfl rfl rfl ?_
                    refine l_l rfl rfl rfl ?_
                    refine l_l rfl rfl rfl ?_
                    refine l_x (x_val call_15 rfl (fun w hw => same_fn b30 ring0 a c l hok (by omega) hc keep hR30 w (hH30.histW hw (fun x hx => by repeat (first | exact hx | exact List.mem_append_left _ hx | refine List.mem_append_right _ ?_ | refine .tail _ ?_))) (hE.later0 hw))) rfl rfl ?_
                    rintro _ _ ⟨rfl, rfl⟩
                    refine l_sure true rfl rfl rfl rfl ?_
                    refine l_l rfl rfl rfl ?_
                    refine l_x (x_slc0 (el := 68) (n := 12) rfl) rfl rfl ?_
                    rintro _ _ ⟨b112, rfl, rfl⟩
                    refine l_l rfl rfl rfl ?_
                    obtain ⟨bl9, ol9, e9, hrl⟩ := hE hl0
                    subst e9
                    refine l_x (x_append (A := []) (G := [(b112, blk [] 68)]) (R := _) (v := (.slice (some ⟨b112, 0, none⟩) 0 0)) (n := 0) (xs := []) (m := l.length) (T := 68) (s := 12) (by_ := 96) (ys := flat cS l) rfl rfl rfl rfl (.row b112 0 0 [] [] rfl rfl (by decide) (Nat.le_refl 0)) (fun w hw => .row _ _ _ _ _ (flat_len cS_len l) (row_old hrl (by simp) w hw)) (ones_flat_of ones_S _) (by omega) (by omega)) rfl rfl ?_
                    rintro v114 _ ⟨G114, hV114, hn114, rfl⟩
                    have hV8 : Vec 68 12 v114 l.length (flat cS l) G114 := hV114.as (Nat.zero_add _) (List.nil_append _)
                    obtain ⟨a114, c114, rfl, _, hc114, hg114⟩ := hV8.gives cS_len (by decide)
                    refine l_l rfl rfl rfl ?_
                    refine l_x (x_appendZ rfl rfl hm0 rfl rfl hc114) rfl rfl ?_
                    rintro _ _ ⟨rfl, rfl⟩
                    obtain rfl := List.eq_nil_of_length_eq_zero hm0
                    rw [List.append_nil] at hH hR
                    refine l_l rfl rfl rfl ?_
                    refine l_x (x_val call_15 rfl (fun w hw => same_fn b32 ring _ _ l hok (by omega) hc114 keep hR w (hH.histW hw (fun x hx => by repeat (first | exact hx | exact List.mem_append_left _ hx | refine List.mem_append_right _ ?_ | refine .tail _ ?_))) (hg114.els hw (fun x hx => by repeat (first | exact hx | exact List.mem_append_left _ hx | refine List.mem_append_right _ ?_ | refine .tail _ ?_))))) rfl rfl ?_
                    rintro _ _ ⟨rfl, rfl⟩
                    refine l_l rfl rfl rfl ?_
                    refine l_sure true rfl rfl rfl rfl ?_
                    refine l_l rfl rfl rfl ?_
                    refine l_x (x_val call_21 rfl (fun w hw => copy0_fn w)) rfl rfl ?_
                    rintro _ _ ⟨rfl, rfl⟩
                    refine l_l rfl rfl rfl ?_
                    refine l_l rfl rfl rfl ?_
                    refine l_l rfl rfl rfl ?_
                    refine l_l rfl rfl rfl ?_
                    refine l_x (x_val call_12 rfl (fun w hw => calls0_fn w)) rfl rfl ?_
                    rintro _ _ ⟨rfl, rfl⟩
                    refine l_l (by first | exact light_len rfl rfl | exact light_lens rfl rfl | rfl) rfl rfl ?_
                    refine l_l rfl rfl rfl ?_
                    refine l_x (x_val call_23 rfl (fun w hw => records0_fn w)) rfl rfl ?_
                    rintro _ _ ⟨rfl, rfl⟩
                    refine l_l (by first | exact light_len rfl rfl | exact light_lens rfl rfl | rfl) rfl rfl ?_
                    refine l_l rfl rfl rfl ?_
                    refine l_sure true rfl rfl rfl rfl ?_
                    refine l_l rfl rfl rfl ?_
                    refine l_l rfl rfl rfl ?_
                    refine l_nil ?_
                    refine c_ret ?_
                    exact l_end0 (fun _ _ => rets_v rfl) ⟨rfl, rfl⟩
                  · refine c_region ?_
                    refine l_l rfl rfl rfl ?_
                    refine l_l rfl rfl rfl ?_
                    refine l_l rfl rfl rfl ?_
                    refine l_x (x_val call_15 rfl (fun w hw => same_fn b30 ring0 a c l hok (by omega) hc keep hR30 w (hH30.histW hw (fun x hx => by repeat (first | exact hx | exact List.mem_append_left _ hx | refine List.mem_append_right _ ?_ | refine .tail _ ?_))) (hE.later0 hw))) rfl rfl ?_
                    rintro _ _ ⟨rfl, rfl⟩
                    refine l_sure true rfl rfl rfl rfl ?_
                    refine l_l rfl rfl rfl ?_
                    refine l_x (x_slc0 (el := 68) (n := 12) rfl) rfl rfl ?_
                    rintro _ _ ⟨b112, rfl, rfl⟩
                    refine l_l rfl rfl rfl ?_
                    obtain ⟨bl9, ol9, e9, hrl⟩ := hE hl0
                    subst e9
                    refine l_x (x_append (A := []) (G := [(b112, blk [] 68)]) (R := _) (v := (.slice (some ⟨b112, 0, none⟩) 0 0)) (n := 0) (xs := []) (m := l.length) (T := 68) (s := 12) (by_ := 96) (ys := flat cS l) rfl rfl rfl rfl (.row b112 0 0 [] [] rfl rfl (by decide) (Nat.le_refl 0)) (fun w hw => .row _ _ _ _ _ (flat_len cS_len l) (row_old hrl (by simp) w hw)) (ones_flat_of ones_S _) (by omega) (by omega)) rfl rfl ?_
                    rintro v114 _ ⟨G114, hV114, hn114, rfl⟩
                    have hV8 : Vec 68 12 v114 l.length (flat cS l) G114 := hV114.as (Nat.zero_add _) (List.nil_append _)
                    obtain ⟨a114, c114, rfl, _, hc114, hg114⟩ := hV8.gives cS_len (by decide)
                    refine l_l rfl rfl rfl ?_
                    obtain ⟨bm9, om9, e8, hrm⟩ := hE2 hm0
                    subst e8
                    refine l_x (x_append (A := []) (G := G114) (R := _) (v := (.slice a114 l.length c114)) (n := l.length) (xs := (flat cS l)) (m := more.length) (T := 68) (s := 12) (by_ := 96) (ys := flat cS more) rfl rfl rfl rfl hV8 (fun w hw => .row _ _ _ _ _ (flat_len cS_len more) (row_old hrm (by simp) w hw)) (ones_flat_of ones_S _) (by omega) (by omega)) rfl rfl ?_
                    rintro v116 _ ⟨G116, hV116, hn116, rfl⟩
                    have hV9 : Vec 68 12 v116 (l ++ more).length (flat cS (l ++ more)) G116 := hV116.as (by simp) (by simp [flat_append, flat_nil])
                    obtain ⟨a9, c9, rfl, _, hcm, hgE⟩ := hV9.gives cS_len (by decide)
                    refine l_l rfl rfl rfl ?_
                    refine l_x (x_val call_15 rfl (fun w hw => same_fn b32 ring _ _ (l ++ more) (fun s hs => (List.mem_append.1 hs).elim (hok s) (hok2 s)) (by rw [List.length_append]; omega) hcm keep hR w (hH.histW hw (fun x hx => by repeat (first | exact hx | exact List.mem_append_left _ hx | refine List.mem_append_right _ ?_ | refine .tail _ ?_))) (hgE.els hw (fun x hx => by repeat (first | exact hx | exact List.mem_append_left _ hx | refine List.mem_append_right _ ?_ | refine .tail _ ?_))))) rfl rfl ?_
                    rintro _ _ ⟨rfl, rfl⟩
                    refine l_l rfl rfl rfl ?_
                    refine l_sure true rfl rfl rfl rfl ?_
                    refine l_l rfl rfl rfl ?_
                    refine l_x (x_val call_21 rfl (fun w hw => copy0_fn w)) rfl rfl ?_
                    rintro _ _ ⟨rfl, rfl⟩
                    refine l_l rfl rfl rfl ?_
                    refine l_l rfl rfl rfl ?_
                    refine l_l rfl rfl rfl ?_
                    refine l_l rfl rfl rfl ?_
                    refine l_x (x_val call_12 rfl (fun w hw => calls0_fn w)) rfl rfl ?_
                    rintro _ _ ⟨rfl, rfl⟩
                    refine l_l (by first | exact light_len rfl rfl | exact light_lens rfl rfl | rfl) rfl rfl ?_
                    refine l_l rfl rfl rfl ?_
                    refine l_x (x_val call_23 rfl (fun w hw => records0_fn w)) rfl rfl ?_
                    rintro _ _ ⟨rfl, rfl⟩
                    refine l_l (by first | exact light_len rfl rfl | exact light_lens rfl rfl | rfl) rfl rfl ?_
                    refine l_l rfl rfl rfl ?_
                    refine l_sure true rfl rfl rfl rfl ?_
                    refine l_l rfl rfl rfl ?_
                    refine l_l rfl rfl rfl ?_
                    refine l_nil ?_
                    refine c_ret ?_
                    exact l_end0 (fun _ _ => rets_v rfl) ⟨rfl, rfl⟩

end Go.Proofs.Ytmafgccagaihbaa
