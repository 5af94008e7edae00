/- The last steps; a history is as the document says. -/
import Derived.Test.YtmafgccagaihbaaRefCalls
import Derived.Test.YtmafgccagaihbaaLeaf
import Derived.Test.YtmafgccagaihbaaCalls
namespace Go.Proofs.Ytmafgccagaihbaa
open Go Go.VV Go.Proofs
set_option linter.unusedSimpArgs false
set_option linter.unusedVariables false
set_option maxRecDepth 100000
theorem records_fn (b keep : Nat) (cs : List Cll) (ring : List Rcd) (l : List Stp) (hk1 : 1 ≤ keep) (hk2 : keep ≤ 32) (hl : l.length < 1000000000) (hR : RingOk keep ring l) (w : World) (hW : HistW w b keep l.length cs ring) :
    Does Try.prog 23 [.pointer (some ⟨b, 0, none⟩)] w [] (fun v H => Vec 73 9 v (lastL l keep).length (flat cR ((lastL l keep).map recOf)) H) := by
  obtain ⟨⟨a, c, q0, qc, qz, hS, hA⟩, q1, q2, q3, q4⟩ := hW
  have hll := lastL_len l keep
  refine does_of Try.func23 rfl rfl rfl (St.refl w) ?_
  refine c_seq ?_
  refine c_region ?_
  refine l_l rfl rfl rfl ?_
  refine l_nil ?_
  refine c_seq ?_
  refine c_seq ?_
  refine c_region ?_
  refine l_l rfl rfl rfl ?_
  refine l_l rfl rfl rfl ?_
  refine l_nil ?_
  refine c_false rfl ?_
  refine c_skip ?_
  refine c_seq ?_
  refine c_region ?_
  refine l_l rfl rfl rfl ?_
  refine l_nil ?_
  refine c_seq ?_
  refine c_seq ?_
  refine c_draw _ [4, 5, 6, 7] (.step true 0 (.step true 1 (.step true 2 (.step true 3 (.step true 4 (.step true 5 (.step true 6 (.step true 7 (.step true 8 (.step true 9 (.step true 10 .done))))))))))) rfl (by kernel_rfl) (by kernel_rfl) (fun _ h => h) ?_
  refine d_light rfl rfl rfl rfl rfl ?_
  refine d_light rfl rfl rfl rfl rfl ?_
  refine d_light rfl (light_fa rfl rfl) rfl rfl rfl ?_
  refine d_load rfl rfl rfl (s_old q2 (by simp)) rfl rfl ?_
  refine d_light rfl rfl rfl rfl rfl ?_
  refine d_light rfl rfl rfl rfl rfl ?_
  refine d_light rfl (light_fa rfl rfl) rfl rfl rfl ?_
  refine d_load rfl rfl rfl (s_old q1 (by simp)) rfl rfl ?_
  refine d_as (v := (.int .i64 ((l.length : Int) - keep))) rfl rfl rfl rfl rfl (congrArg _ (wrap_i64 (by omega) (by omega))) ?_
  refine d_as (v := (.int .i64 ((l.length - keep + 0 : Nat) : Int))) rfl (light_max rfl rfl) rfl rfl rfl (congrArg _ (by omega)) ?_
  refine d_light rfl rfl rfl rfl rfl ?_
  refine d_nil ?_
  refine c_block ?_
  refine c_loop (σ := Nat × Value × Heap) [3, 4, 17, 18, 19, 20, 21, 22, 23, 24, 25, 26, 27, 28, 29, 30, 31, 32, 33, 34, 35, 36, 37, 38] (fun s => [(3, s.2.1), (4, .int .i64 ((l.length - keep + s.1 : Nat) : Int))]) (fun s => s.2.2 ++ []) (fun s => s.1 ≤ (lastL l keep).length ∧ Vec 73 9 s.2.1 s.1 (flat cR (((lastL l keep).map recOf).take s.1)) s.2.2) (fun s => (lastL l keep).length - s.1) (0, .slice none 0 0, []) ?_ ?_ ?_ ?_
  · exact ⟨Nat.zero_le _, .nil⟩
  · exact .cons rfl (.cons rfl .nil)
  · exact fun _ h => h
  · rintro ⟨j, v, G⟩ y5 ⟨hj, hV⟩
    dsimp only at hj hV ⊢
    obtain ⟨a3, c3, rfl⟩ := hV.slice
    refine c_seq ?_
    refine c_seq ?_
    refine c_region ?_
    refine l_l rfl rfl rfl ?_
    refine l_l rfl rfl rfl ?_
    refine l_l rfl rfl rfl ?_
    refine l_l (light_fa rfl rfl) rfl rfl ?_
    refine l_x (x_load rfl rfl (at_old q2 (by simp))) rfl rfl ?_
    rintro _ _ ⟨rfl, rfl⟩
    refine l_l rfl rfl rfl ?_
    refine l_nil ?_
    refine c_cond rfl (fun h1 => ?_) (fun h1 => ?_)
    · refine c_skip ?_
      refine c_seq ?_
      refine c_block ?_
      obtain ⟨s, hg⟩ : ∃ s, (lastL l keep)[j]? = some s := ⟨_, get_some (by rw [hll]; (try simp only [decide_eq_true_eq, decide_eq_false_iff_not, beq_iff_eq, beq_eq_false_iff_ne, bne_iff_ne, bne_eq_false_iff_eq, ne_eq] at *); omega)⟩
      have hg2 := last_get hg
      obtain ⟨hi9, hg3⟩ := List.getElem?_eq_some_iff.1 hg2
      have hrg := hR.2 _ hi9 (by omega)
      rw [hg3] at hrg
      have hm9 : (l.length - keep + j) % keep < 32 := Nat.lt_of_lt_of_le (Nat.mod_lt _ (by omega)) hk2
      refine c_heap (L' := G) (fun _ h => h.as (by simp)) ?_
      refine c_draw _ [8, 9] (.step true 0 (.step true 1 (.step true 2 (.step true 3 (.step true 4 (.step true 5 (.step true 6 (.step true 7 (.step true 8 (.step true 9 (.step true 10 (.step true 11 (.step false 12 (.step false 13 (.step true 14 .done))))))))))))))) rfl (by kernel_rfl) (by kernel_rfl) (fun _ h => h) ?_
      refine d_light rfl rfl rfl rfl rfl ?_
      refine d_light rfl rfl rfl rfl rfl ?_
      refine d_light rfl rfl rfl rfl rfl ?_
      refine d_light rfl rfl rfl rfl rfl ?_
      refine d_light rfl rfl rfl rfl rfl ?_
      refine d_light rfl (light_fa rfl rfl) rfl rfl rfl ?_
      refine d_load rfl rfl rfl (s_old q1 (by simp)) rfl rfl ?_
      refine d_as (v := (.int .i64 (((l.length - keep + j) % keep : Nat) : Int))) rfl (rem_pos rfl rfl (by omega)) rfl rfl rfl (congrArg _ mod_law) ?_
      refine d_light rfl rfl rfl rfl rfl ?_
      refine d_light rfl (light_fa rfl rfl) rfl rfl rfl ?_
      refine d_light rfl (idx_array (s := 9) ((l.length - keep + j) % keep) rfl rfl rfl rfl hm9) rfl rfl rfl ?_
      refine d_loadA rfl rfl rfl rfl (srow_old (q4 _ _ hrg) (by simp)) rfl rfl ?_
      refine d_x rfl (x_slc (z := cR r0) (l := cR (recOf s)) (ps := [(0, .agg (cR (recOf s)).toArray)]) rfl rfl rfl rfl rfl (by kernel_rfl)) rfl rfl (by intro h; cases h) ?_
      rintro _ _ ⟨b37, rfl, rfl⟩
      refine d_x rfl (x_appendE (A := [(b37, _)]) (G := G) (v := (.slice a3 j c3)) (n := j) (xs := (flat cR (((lastL l keep).map recOf).take j))) (m := 1) (T := 73) (s := 9) (by_ := 72) (ys := cR (recOf s)) rfl rfl rfl rfl hV (fun w hw => .row _ _ _ _ _ rfl (row_own (.head _) w hw)) rfl (by omega) (by omega)) rfl rfl (by intro h; cases h) ?_
      rintro v38 _ ⟨G38, hV38, hn38, rfl⟩
      have hV9 : Vec 73 9 v38 (j + 1) (flat cR (((lastL l keep).map recOf).take (j + 1))) G38 := hV38.as rfl (by rw [get_part (show ((lastL l keep).map recOf)[j]? = some (recOf s) by rw [List.getElem?_map, hg]; rfl), flat_snoc])
      obtain ⟨a9, c9, rfl⟩ := hV9.slice
      refine d_light rfl rfl rfl rfl rfl ?_
      refine d_nil ?_
      refine c_region ?_
      refine l_l rfl rfl rfl ?_
      refine l_as (v := (.int .i64 ((l.length - keep + (j + 1) : Nat) : Int))) rfl rfl rfl (congrArg _ (by rw [wrap_i64 (by omega) (by omega)]; omega)) ?_
      refine l_l rfl rfl rfl ?_
      refine l_nil ?_
      exact ⟨(j + 1, _, G38), ⟨by rw [hll]; (try simp only [decide_eq_true_eq, decide_eq_false_iff_not, beq_iff_eq, beq_eq_false_iff_ne, bne_iff_ne, bne_eq_false_iff_eq, ne_eq] at *); omega, hV9⟩, by dsimp only; rw [hll]; (try simp only [decide_eq_true_eq, decide_eq_false_iff_not, beq_iff_eq, beq_eq_false_iff_ne, bne_iff_ne, bne_eq_false_iff_eq, ne_eq] at *); omega, .cons rfl (.cons rfl .nil), (by repeat (first | exact Agree.refl _ _ | exact Agree.mix rfl | refine Agree.put rfl ?_ | refine Agree.keep rfl ?_)), fun _ h => h.sub ((List.Sublist.refl _).append (List.nil_sublist _))⟩
    · refine c_exit rfl ?_
      refine c_seq ?_
      refine c_region ?_
      refine l_l rfl rfl rfl ?_
      refine l_l rfl rfl rfl ?_
      refine l_nil ?_
      refine c_ret ?_
      obtain rfl : j = (lastL l keep).length := by rw [hll]; (try simp only [decide_eq_true_eq, decide_eq_false_iff_not, beq_iff_eq, beq_eq_false_iff_ne, bne_iff_ne, bne_eq_false_iff_eq, ne_eq] at *); omega
      have ht9 : ((lastL l keep).map recOf).take (lastL l keep).length = (lastL l keep).map recOf := List.take_of_length_le (by simp)
      rw [ht9] at hV
      exact l_end (fun _ _ => rets_v rfl) (List.sublist_append_left _ _) hV

theorem last_fn (a : Option Addr) (c : Nat) (l : List Stp) (hl : l.length < 1000000000) (hc : l.length ≤ c) (keep : Int) (w : World) (hE : Els w cS a l) :
    Does Try.prog 28 [.slice a l.length c, .int .i64 keep] w [] (fun v H => H = [] ∧ v = lastV a c l.length (kp keep)) := by
  have hkp : ((kp keep : Nat) : Int) = max 1 (min keep 32) := by unfold kp; omega
  refine does_of Try.func28 rfl rfl rfl (St.refl w) ?_
  refine c_seq ?_
  refine c_region ?_
  refine l_l rfl rfl rfl ?_
  refine l_nil ?_
  refine c_seq ?_
  refine c_region ?_
  refine l_l rfl rfl rfl ?_
  refine l_l (light_min rfl rfl) rfl rfl ?_
  refine l_as (v := (.int .i64 ((kp keep : Nat) : Int))) (light_max rfl rfl) rfl rfl (congrArg _ hkp.symm) ?_
  refine l_l rfl rfl rfl ?_
  refine l_nil ?_
  refine c_seq ?_
  refine c_seq ?_
  refine c_region ?_
  refine l_l rfl rfl rfl ?_
  refine l_l (by first | exact light_len rfl rfl | exact light_lens rfl rfl | rfl) rfl rfl ?_
  refine l_l rfl rfl rfl ?_
  refine l_l rfl rfl rfl ?_
  refine l_nil ?_
  refine c_cond rfl (fun h1 => ?_) (fun h1 => ?_)
  · refine c_seq ?_
    refine c_region ?_
    refine l_l rfl rfl rfl ?_
    refine l_l rfl rfl rfl ?_
    refine l_nil ?_
    refine c_ret ?_
    exact l_end0 (fun _ _ => rets_v rfl) ⟨rfl, by unfold lastV; rw [if_pos (by (try simp only [decide_eq_true_eq, decide_eq_false_iff_not, beq_iff_eq, beq_eq_false_iff_ne, bne_iff_ne, bne_eq_false_iff_eq, ne_eq] at *); omega)]⟩
  · refine c_skip ?_
    refine c_seq ?_
    obtain ⟨b9, o9, rfl, hr9⟩ := hE (by (try simp only [decide_eq_true_eq, decide_eq_false_iff_not, beq_iff_eq, beq_eq_false_iff_ne, bne_iff_ne, bne_eq_false_iff_eq, ne_eq] at *); omega)
    have hk9 := (kp_ok keep).1
    refine c_region ?_
    refine l_l rfl rfl rfl ?_
    refine l_l rfl rfl rfl ?_
    refine l_l (by first | exact light_len rfl rfl | exact light_lens rfl rfl | rfl) rfl rfl ?_
    refine l_l rfl rfl rfl ?_
    refine l_as (v := (.int .i64 ((l.length - kp keep : Nat) : Int))) rfl rfl rfl (congrArg _ (by rw [wrap_i64 (by omega) (by omega)]; (try simp only [decide_eq_true_eq, decide_eq_false_iff_not, beq_iff_eq, beq_eq_false_iff_ne, bne_iff_ne, bne_eq_false_iff_eq, ne_eq] at *); omega)) ?_
    refine l_l (cut_slice (s := 12) (l.length - kp keep) l.length rfl rfl rfl rfl rfl rfl (by omega) hc) rfl rfl ?_
    refine l_l rfl rfl rfl ?_
    refine l_nil ?_
    refine c_ret ?_
    exact l_end0 (fun _ _ => rets_v rfl) ⟨rfl, by unfold lastV; rw [if_neg (by (try simp only [decide_eq_true_eq, decide_eq_false_iff_not, beq_iff_eq, beq_eq_false_iff_ne, bne_iff_ne, bne_eq_false_iff_eq, ne_eq] at *); omega)]⟩

theorem same_fn (b : Nat) (ring : List Rcd) (a : Option Addr) (c : Nat) (l : List Stp) (hok : ∀ s ∈ l, StpOk s) (hl : l.length < 1000000000) (hc : l.length ≤ c) (keep : Int) (hR : RingOk (kp keep) ring l) (w : World) (hW : HistW w b (kp keep) l.length (callsL l) ring) (hE : Els w cS a l) :
    Does Try.prog 15 [.pointer (some ⟨b, 0, none⟩), .slice a l.length c, .int .i64 keep] w [] (fun v H => H = [] ∧ v = .bool true) := by
  have hcl := callsL_len l
  refine does_of Try.func15 rfl rfl rfl (St.refl w) ?_
  refine c_seq ?_
  refine c_region ?_
  refine l_l rfl rfl rfl ?_
  refine l_nil ?_
  refine c_seq ?_
  refine c_region ?_
  refine l_l rfl rfl rfl ?_
  refine l_x (x_call call_12 rfl (fun w hw => calls_fn b _ _ _ _ (by omega) w (hW.later0 hw))) rfl rfl ?_
  rintro v14 _ ⟨G14, hV14, rfl⟩
  obtain ⟨a14, c14, rfl, _, hc14, hr14⟩ := hV14.rows cC_len (by decide)
  refine l_l rfl rfl rfl ?_
  refine l_x (x_call call_27 rfl (fun w hw => rcalls_fn a c l hok hl w (hE.later0 hw))) rfl rfl ?_
  rintro v16 _ ⟨G16, hS16, rfl⟩
  obtain ⟨a16, c16, rfl, hc16, hr16⟩ := hS16.slice
  refine l_l rfl rfl rfl ?_
  refine l_l rfl rfl rfl ?_
  refine l_nil ?_
  refine c_seq ?_
  refine c_region ?_
  refine l_l rfl rfl rfl ?_
  refine l_x (x_call call_23 rfl (fun w hw => records_fn b _ _ ring l (kp_ok keep).1 (kp_ok keep).2 hl hR w (hW.later0 hw))) rfl rfl ?_
  rintro v18 _ ⟨G18, hV18, rfl⟩
  obtain ⟨a18, c18, rfl, hn18, hc18, hr18⟩ := hV18.rows cR_len (by decide)
  refine l_l rfl rfl rfl ?_
  refine l_l rfl rfl rfl ?_
  refine l_x (x_val call_28 rfl (fun w hw => last_fn a c l hl hc keep w (hE.later0 hw))) rfl rfl ?_
  rintro _ _ ⟨rfl, rfl⟩
  obtain ⟨a21, c21, e21, hE21⟩ := last_els (k := kp keep) hE hc
  rw [e21]
  refine l_l rfl rfl rfl ?_
  refine l_l rfl rfl rfl ?_
  refine l_nil ?_
  refine c_seq ?_
  refine c_seq ?_
  refine c_region ?_
  refine l_l rfl rfl rfl ?_
  refine l_l (by first | exact light_len rfl rfl | exact light_lens rfl rfl | rfl) rfl rfl ?_
  refine l_l rfl rfl rfl ?_
  refine l_l (by first | exact light_len rfl rfl | exact light_lens rfl rfl | rfl) rfl rfl ?_
  refine l_sure false rfl rfl rfl (by simp) ?_
  refine l_l rfl rfl rfl ?_
  refine l_l rfl rfl rfl ?_
  refine l_l (by first | exact light_len rfl rfl | exact light_lens rfl rfl | rfl) rfl rfl ?_
  refine l_l rfl rfl rfl ?_
  refine l_l (by first | exact light_len rfl rfl | exact light_lens rfl rfl | rfl) rfl rfl ?_
  refine l_sure false rfl rfl rfl (by simp) ?_
  refine l_l rfl rfl rfl ?_
  refine l_nil ?_
  refine c_false rfl ?_
  refine c_skip ?_
  refine c_seq ?_
  refine c_seq ?_
  refine c_region ?_
  refine l_l rfl rfl rfl ?_
  refine l_l (by first | exact light_len rfl rfl | exact light_lens rfl rfl | rfl) rfl rfl ?_
  refine l_l rfl rfl rfl ?_
  refine l_nil ?_
  refine c_block ?_
  refine c_loopk (σ := Nat) [6, 11, 36, 37, 38, 39, 40, 41, 42, 43, 44, 45, 46, 47, 48] (fun p => [(36, .int .i64 p)]) (fun p => p ≤ (callsL l).length) (fun p => (callsL l).length - p) 0 ?_ ?_ ?_
  · exact Nat.zero_le _
  · exact .cons rfl .nil
  · intro p y6 hp
    refine c_seq ?_
    refine c_region ?_
    refine l_l rfl rfl rfl ?_
    refine l_nil ?_
    refine c_seq ?_
    refine c_cond rfl (fun h1 => ?_) (fun h1 => ?_)
    · refine c_skip ?_
      refine c_seq ?_
      refine c_block ?_
      refine c_seq ?_
      refine c_region ?_
      refine l_l rfl rfl rfl ?_
      refine l_l rfl rfl rfl ?_
      refine l_nil ?_
      refine c_seq ?_
      obtain ⟨b9, rfl, hr9⟩ := hr14 (by (try simp only [decide_eq_true_eq, decide_eq_false_iff_not, beq_iff_eq, beq_eq_false_iff_ne, bne_iff_ne, bne_eq_false_iff_eq, ne_eq] at *); omega)
      obtain ⟨b8, o8, rfl, hr8⟩ := hr16 (by (try simp only [decide_eq_true_eq, decide_eq_false_iff_not, beq_iff_eq, beq_eq_false_iff_ne, bne_iff_ne, bne_eq_false_iff_eq, ne_eq] at *); omega)
      obtain ⟨x, hgx⟩ : ∃ x, (callsL l)[p]? = some x := ⟨_, get_some (by (try simp only [decide_eq_true_eq, decide_eq_false_iff_not, beq_iff_eq, beq_eq_false_iff_ne, bne_iff_ne, bne_eq_false_iff_eq, ne_eq] at *); omega)⟩
      refine c_draw _ [4, 5, 6, 7] (.step true 0 (.step true 1 (.step true 2 (.step true 3 (.step true 4 (.step true 5 (.step true 6 (.step true 7 (.step true 8 .done))))))))) rfl (by kernel_rfl) (by kernel_rfl) (fun _ h => h) ?_
      refine d_light rfl rfl rfl rfl rfl ?_
      refine d_light rfl rfl rfl rfl rfl ?_
      refine d_light rfl (idx_slice (s := 5) p rfl rfl rfl rfl (by (try simp only [decide_eq_true_eq, decide_eq_false_iff_not, beq_iff_eq, beq_eq_false_iff_ne, bne_iff_ne, bne_eq_false_iff_eq, ne_eq] at *); omega)) rfl rfl rfl ?_
      refine d_loadA rfl rfl rfl rfl (fun w hw => (hr9.srow (fun x hx => by simp only [List.mem_append, List.mem_cons]; simp only [hx, true_or, or_true]) w hw).nth' cC_len hgx) rfl rfl ?_
      refine d_light rfl rfl rfl rfl rfl ?_
      refine d_light rfl rfl rfl rfl rfl ?_
      refine d_light rfl (idx_slice (s := 5) p rfl rfl rfl rfl (by (try simp only [decide_eq_true_eq, decide_eq_false_iff_not, beq_iff_eq, beq_eq_false_iff_ne, bne_iff_ne, bne_eq_false_iff_eq, ne_eq] at *); omega)) rfl rfl rfl ?_
      refine d_loadA rfl rfl rfl rfl (fun w hw => (hr8.srow (fun x hx => by simp only [List.mem_append, List.mem_cons]; simp only [hx, true_or, or_true]) w hw).nth' cC_len hgx) rfl rfl ?_
      refine d_nes (ks := [.int .i64, .int .i64, .int .u16, .int .u16, .int .u16]) rfl rfl rfl (by kernel_rfl) (by kernel_rfl) rfl rfl rfl rfl (b := false) (by simp [lveq, veq, cC]) ?_
      refine d_nil ?_
      refine c_false rfl ?_
      refine c_skip ?_
      refine c_region ?_
      refine l_as (v := (.int .i64 ((p + 1 : Nat) : Int))) rfl rfl rfl (congrArg _ (succ_law (by omega))) ?_
      refine l_l rfl rfl rfl ?_
      refine l_nil ?_
      exact ⟨p + 1, by (try simp only [decide_eq_true_eq, decide_eq_false_iff_not, beq_iff_eq, beq_eq_false_iff_ne, bne_iff_ne, bne_eq_false_iff_eq, ne_eq] at *); omega, by (try simp only [decide_eq_true_eq, decide_eq_false_iff_not, beq_iff_eq, beq_eq_false_iff_ne, bne_iff_ne, bne_eq_false_iff_eq, ne_eq] at *); omega, .cons rfl .nil, (by repeat (first | exact Agree.refl _ _ | exact Agree.mix rfl | refine Agree.put rfl ?_ | refine Agree.keep rfl ?_)), fun _ h => h⟩
    · refine c_exit rfl ?_
      refine c_seq ?_
      refine c_seq ?_
      refine c_region ?_
      refine l_l rfl rfl rfl ?_
      refine l_l (by first | exact light_len rfl rfl | exact light_lens rfl rfl | rfl) rfl rfl ?_
      refine l_l rfl rfl rfl ?_
      refine l_nil ?_
      refine c_block ?_
      refine c_loopk (σ := Nat) [6, 12, 51, 52, 53, 54, 55, 56, 57, 58, 59, 60, 61, 62, 63, 64, 65, 66, 67, 68, 69, 70, 71, 72, 73, 74, 75, 76, 77, 78, 79, 80, 81, 82, 83, 84, 85, 86, 87, 88] (fun p => [(51, .int .i64 p)]) (fun p => p ≤ (lastL l (kp keep)).length) (fun p => (lastL l (kp keep)).length - p) 0 ?_ ?_ ?_
      · exact Nat.zero_le _
      · exact .cons rfl .nil
      · intro p y12 hp
        have hll9 := lastL_len l (kp keep)
        refine c_seq ?_
        refine c_region ?_
        refine l_l rfl rfl rfl ?_
        refine l_nil ?_
        refine c_seq ?_
        refine c_cond rfl (fun h2 => ?_) (fun h2 => ?_)
        · refine c_skip ?_
          refine c_seq ?_
          refine c_block ?_
          refine c_seq ?_
          refine c_region ?_
          refine l_l rfl rfl rfl ?_
          refine l_l rfl rfl rfl ?_
          refine l_nil ?_
          refine c_seq ?_
          obtain ⟨b9, rfl, hr9⟩ := hr18 (by rw [hn18]; (try simp only [decide_eq_true_eq, decide_eq_false_iff_not, beq_iff_eq, beq_eq_false_iff_ne, bne_iff_ne, bne_eq_false_iff_eq, ne_eq] at *); omega)
          obtain ⟨b8, o8, rfl, hr8⟩ := hE21 (by (try simp only [decide_eq_true_eq, decide_eq_false_iff_not, beq_iff_eq, beq_eq_false_iff_ne, bne_iff_ne, bne_eq_false_iff_eq, ne_eq] at *); omega)
          obtain ⟨s, hg⟩ : ∃ s, (lastL l (kp keep))[p]? = some s := ⟨_, get_some (by (try simp only [decide_eq_true_eq, decide_eq_false_iff_not, beq_iff_eq, beq_eq_false_iff_ne, bne_iff_ne, bne_eq_false_iff_eq, ne_eq] at *); omega)⟩
          have hgr : ((lastL l (kp keep)).map recOf)[p]? = some (recOf s) := by rw [List.getElem?_map, hg]; rfl
          refine c_draw _ [4, 5, 6, 7, 8, 9, 10, 11, 12, 13, 14, 15, 16, 17, 18, 19, 20, 21, 22, 23, 24, 25, 26, 27, 28, 29, 30, 31, 32] (.step true 0 (.step true 1 (.step true 2 (.step true 3 (.step true 4 (.step true 5 (.step true 6 (.step true 7 (.step true 8 (.step true 9 (.step true 10 (.step true 11 (.step true 12 (.step true 13 (.step true 14 (.step true 15 (.step true 16 (.step true 17 (.step true 18 (.step true 19 (.step true 20 (.step true 21 (.step true 22 (.step true 23 (.step true 24 (.step true 25 (.step true 26 (.step true 27 (.step true 28 (.step true 29 (.step true 30 (.step true 31 (.step true 32 (.step true 33 .done)))))))))))))))))))))))))))))))))) rfl (by kernel_rfl) (by kernel_rfl) (fun _ h => h) ?_
          refine d_light rfl rfl rfl rfl rfl ?_
          refine d_light rfl rfl rfl rfl rfl ?_
          refine d_light rfl (idx_slice (s := 9) p rfl rfl rfl rfl (by (try simp only [decide_eq_true_eq, decide_eq_false_iff_not, beq_iff_eq, beq_eq_false_iff_ne, bne_iff_ne, bne_eq_false_iff_eq, ne_eq] at *); omega)) rfl rfl rfl ?_
          refine d_loadA rfl rfl rfl rfl (fun w hw => (hr9.srow (fun x hx => by simp only [List.mem_append, List.mem_cons]; simp only [hx, true_or, or_true]) w hw).nth' cR_len hgr) rfl rfl ?_
          refine d_light rfl rfl rfl rfl rfl ?_
          refine d_light rfl rfl rfl rfl rfl ?_
          refine d_light rfl (idx_slice (s := 12) p rfl rfl rfl rfl (by (try simp only [decide_eq_true_eq, decide_eq_false_iff_not, beq_iff_eq, beq_eq_false_iff_ne, bne_iff_ne, bne_eq_false_iff_eq, ne_eq] at *); omega)) rfl rfl rfl ?_
          refine d_light rfl (light_fa rfl rfl) rfl rfl rfl ?_
          refine d_load rfl rfl rfl (fun w hw => (srow_old hr8 (by simp) w hw).at cS_len hg 0 rfl) rfl rfl ?_
          refine d_light rfl rfl rfl rfl rfl ?_
          refine d_light rfl rfl rfl rfl rfl ?_
          refine d_light rfl (idx_slice (s := 12) p rfl rfl rfl rfl (by (try simp only [decide_eq_true_eq, decide_eq_false_iff_not, beq_iff_eq, beq_eq_false_iff_ne, bne_iff_ne, bne_eq_false_iff_eq, ne_eq] at *); omega)) rfl rfl rfl ?_
          refine d_light rfl (light_fa rfl rfl) rfl rfl rfl ?_
          refine d_light rfl (light_fa rfl rfl) rfl rfl rfl ?_
          refine d_load rfl rfl rfl (fun w hw => (srow_old hr8 (by simp) w hw).at cS_len hg 2 rfl) rfl rfl ?_
          refine d_light rfl rfl rfl rfl rfl ?_
          refine d_light rfl rfl rfl rfl rfl ?_
          refine d_light rfl (idx_slice (s := 12) p rfl rfl rfl rfl (by (try simp only [decide_eq_true_eq, decide_eq_false_iff_not, beq_iff_eq, beq_eq_false_iff_ne, bne_iff_ne, bne_eq_false_iff_eq, ne_eq] at *); omega)) rfl rfl rfl ?_
          refine d_light rfl (light_fa rfl rfl) rfl rfl rfl ?_
          refine d_load rfl rfl rfl (fun w hw => (srow_old hr8 (by simp) w hw).at cS_len hg 1 rfl) rfl rfl ?_
          refine d_light rfl rfl rfl rfl rfl ?_
          refine d_light rfl rfl rfl rfl rfl ?_
          refine d_light rfl (idx_slice (s := 12) p rfl rfl rfl rfl (by (try simp only [decide_eq_true_eq, decide_eq_false_iff_not, beq_iff_eq, beq_eq_false_iff_ne, bne_iff_ne, bne_eq_false_iff_eq, ne_eq] at *); omega)) rfl rfl rfl ?_
          refine d_light rfl (light_fa rfl rfl) rfl rfl rfl ?_
          refine d_light rfl (light_fa rfl rfl) rfl rfl rfl ?_
          refine d_load rfl rfl rfl (fun w hw => (srow_old hr8 (by simp) w hw).at cS_len hg 4 rfl) rfl rfl ?_
          refine d_light rfl rfl rfl rfl rfl ?_
          refine d_light rfl rfl rfl rfl rfl ?_
          refine d_light rfl (idx_slice (s := 12) p rfl rfl rfl rfl (by (try simp only [decide_eq_true_eq, decide_eq_false_iff_not, beq_iff_eq, beq_eq_false_iff_ne, bne_iff_ne, bne_eq_false_iff_eq, ne_eq] at *); omega)) rfl rfl rfl ?_
          refine d_light rfl (light_fa rfl rfl) rfl rfl rfl ?_
          refine d_light rfl (light_fa rfl rfl) rfl rfl rfl ?_
          refine d_loadA rfl rfl rfl rfl (fun w hw => (srow_old hr8 (by simp) w hw).part cS_len hg 5 5 rfl) rfl rfl ?_
          refine d_light rfl (light_struct rfl rfl rfl rfl) rfl rfl rfl ?_
          refine d_nes (ks := [.int .u64, .int .i64, .int .i64, .int .u16, .int .i64, .int .i64, .int .i64, .int .i64, .int .u16]) rfl rfl rfl (by kernel_rfl) (by kernel_rfl) rfl rfl rfl rfl (b := false) (by simp [lveq, veq, cR, recOf]) ?_
          refine d_nil ?_
          refine c_false rfl ?_
          refine c_skip ?_
          refine c_region ?_
          refine l_as (v := (.int .i64 ((p + 1 : Nat) : Int))) rfl rfl rfl (congrArg _ (succ_law (by omega))) ?_
          refine l_l rfl rfl rfl ?_
          refine l_nil ?_
          exact ⟨p + 1, by (try simp only [decide_eq_true_eq, decide_eq_false_iff_not, beq_iff_eq, beq_eq_false_iff_ne, bne_iff_ne, bne_eq_false_iff_eq, ne_eq] at *); omega, by (try simp only [decide_eq_true_eq, decide_eq_false_iff_not, beq_iff_eq, beq_eq_false_iff_ne, bne_iff_ne, bne_eq_false_iff_eq, ne_eq] at *); omega, .cons rfl .nil, (by repeat (first | exact Agree.refl _ _ | exact Agree.mix rfl | refine Agree.put rfl ?_ | refine Agree.keep rfl ?_)), fun _ h => h⟩
        · refine c_exit rfl ?_
          refine c_seq ?_
          refine c_region ?_
          refine l_l rfl rfl rfl ?_
          refine l_nil ?_
          refine c_ret ?_
          exact l_end0 (fun _ _ => rets_v rfl) ⟨rfl, rfl⟩

end Go.Proofs.Ytmafgccagaihbaa
