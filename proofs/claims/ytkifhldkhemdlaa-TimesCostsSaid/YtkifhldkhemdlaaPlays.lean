/- The contract of the law that the line is the document's. -/
import Derived.Test.YtkifhldkhemdlaaRefAdd
import Derived.Test.YtkifhldkhemdlaaAwake
import Derived.Test.YtkifhldkhemdlaaCalls
namespace Go.Proofs.Ytkifhldkhemdlaa
open Go Go.VV Go.Proofs
set_option linter.unusedSimpArgs false
set_option linter.unusedVariables false
section
variable (b : Nat) (cap : Int) (hcap : 2 ≤ cap ∧ cap ≤ 256) (lack : Bool) (ws : List Mark) (hR : Rise ws) (hlen : ws.length < 100000000) (x : Int) (hx : 0 ≤ x) (a : Option Addr) (c : Nat) (l : List Int) (hl : l.length ≤ 140737488355328) (G : Heap) (w : World)
  (hL : RLineH b cap lack ws G) (hst : St w (G.map (·.1)) G w) (hB : BytS w (G.map (·.1)) a l) (hc0 : a = none → c = 0)
include hcap hR hlen hx hl hL hst hB hc0
theorem radd_ok (h : addErr ws x = 0) : Does Try.prog 16 [.pointer (some ⟨b, 0, none⟩), .int .u64 x, .slice a l.length c] w (G.map (·.1)) (fun v H => v = .int .i64 0 ∧
    ∃ mk G' D', mk.t = x ∧ mk.l = l ∧ mk.l.length ≤ mk.c ∧ H = G' ++ D' ∧ RLineH b cap (lack || decide (cap.toNat < (thinL (ws ++ [mk])).length)) (addM cap.toNat ws mk) G' ∧ Byt l (.slice mk.a l.length mk.c) D') :=
  (radd_fn b cap hcap.1 hcap.2 lack ws hR hlen x hx a c l hl G w hL hst hB hc0).mono fun v H hA => by
    obtain ⟨rfl, h1 | h1⟩ := hA
    · exact absurd h h1.1
    · exact ⟨by rw [h], h1.2⟩
theorem radd_no (e : Int) (h : addErr ws x = e) (he : e ≠ 0) : Does Try.prog 16 [.pointer (some ⟨b, 0, none⟩), .int .u64 x, .slice a l.length c] w (G.map (·.1)) (fun v H => v = .int .i64 e ∧ H = G) :=
  (radd_fn b cap hcap.1 hcap.2 lack ws hR hlen x hx a c l hl G w hL hst hB hc0).mono fun v H hA => by
    obtain ⟨rfl, h1 | h1⟩ := hA
    · exact ⟨by rw [h], h1.2⟩
    · exact absurd (h1.1.symm.trans h).symm he
end

set_option maxHeartbeats 4000000 in
theorem same_fn (b b2 : Nat) (cap : Int) (lack : Bool) (ms ws : List Mark) (hR : Rise ms) (hlen : ms.length < 100000000) (hT : Tw ms ws) (x : Int) (hx : 0 ≤ x) (w : World) (hL : LineW w b cap ms) (hD : DatW w ms) (hL2 : RLineW w b2 cap lack ws) (hD2 : DatW w ws) :
    Does Try.prog 17 [.pointer (some ⟨b, 0, none⟩), .pointer (some ⟨b2, 0, none⟩), .int .u64 x] w [] (fun v H => H = [] ∧ v = .bool true) := by
  have hL3 := hL2
  obtain ⟨⟨a2, c2, r0, rc, hE⟩, r1, r2⟩ := hL2
  have hlw := hT.len
  refine does_of Try.func17 rfl rfl rfl (St.refl w) ?_
  refine c_seq ?_
  refine c_region ?_
  refine l_l rfl rfl rfl ?_
  refine l_nil ?_
  refine c_seq ?_
  refine c_region ?_
  refine l_l rfl rfl rfl ?_
  refine l_x (x_call call_14 rfl (fun w hw => marks_fn b cap ms (by omega) w (hL.later0 hw))) rfl rfl ?_
  rintro v19 _ ⟨G19, hV19, rfl⟩
  obtain ⟨a19, c19, rfl⟩ := hV19.slice
  refine l_l rfl rfl rfl ?_
  refine l_nil ?_
  refine c_seq ?_
  refine c_seq ?_
  refine c_region ?_
  refine l_l rfl rfl rfl ?_
  refine l_l (by first | exact light_len rfl rfl | exact light_lens rfl rfl | rfl) rfl rfl ?_
  refine l_l rfl rfl rfl ?_
  refine l_l rfl rfl rfl ?_
  refine l_l (light_fa rfl rfl) rfl rfl ?_
  refine l_x (x_load rfl rfl (at_old r0 (by simp))) rfl rfl ?_
  rintro _ _ ⟨rfl, rfl⟩
  refine l_l (by first | exact light_len rfl rfl | exact light_lens rfl rfl | rfl) rfl rfl ?_
  refine l_sure false rfl rfl rfl (by rw [hT.len]; simp) ?_
  refine l_nil ?_
  refine c_false rfl ?_
  refine c_skip ?_
  refine c_seq ?_
  refine c_seq ?_
  refine c_region ?_
  refine l_l rfl rfl rfl ?_
  refine l_l (by first | exact light_len rfl rfl | exact light_lens rfl rfl | rfl) rfl rfl ?_
  refine l_l rfl rfl rfl ?_
  refine l_nil ?_
  refine c_block ?_
  refine c_loopk (σ := Nat) [6, 8, 30, 31, 32, 33, 34, 35, 36, 37, 38, 39, 40, 41, 42, 43, 44, 45, 46] (fun k => [(30, .int .i64 k)]) (fun k => k ≤ ms.length) (fun k => ms.length - k) 0 ?_ ?_ ?_
  · exact Nat.zero_le _
  · exact .cons rfl .nil
  · intro k y5 hk
    refine c_seq ?_
    refine c_region ?_
    refine l_l rfl rfl rfl ?_
    refine l_nil ?_
    refine c_seq ?_
    refine c_cond rfl (fun h1 => ?_) (fun h1 => ?_)
    · refine c_skip ?_
      refine c_seq ?_
      refine c_block ?_
      refine c_seq ?_
      refine c_region ?_
      refine l_l rfl rfl rfl ?_
      refine l_l rfl rfl rfl ?_
      refine l_nil ?_
      refine c_seq ?_
      have hkl : k < ms.length := by (try simp only [decide_eq_true_eq, decide_eq_false_iff_not, beq_iff_eq, beq_eq_false_iff_ne, bne_iff_ne, bne_eq_false_iff_eq, ne_eq] at *); omega
      obtain ⟨b19, cc19, sp19, hv19, hG19, hz19, hl19, hx19⟩ := vec_some hV19 (by omega)
      cases hv19
      subst hG19
      obtain ⟨br, off, rfl, hr⟩ := hE (by omega)
      refine c_draw _ [4, 5, 6, 7, 8, 9, 10, 11] (.step true 0 (.step true 1 (.step true 2 (.step true 3 (.step true 4 (.step true 5 (.step true 6 (.step true 7 (.step true 8 (.step true 9 (.step true 10 (.step true 11 (.step true 12 .done))))))))))))) rfl (by kernel_rfl) (by kernel_rfl) (fun _ h => h) ?_
      refine d_light rfl rfl rfl rfl rfl ?_
      refine d_light rfl rfl rfl rfl rfl ?_
      refine d_light rfl (idx_slice1 k rfl rfl rfl rfl (by (try simp only [decide_eq_true_eq, decide_eq_false_iff_not, beq_iff_eq, beq_eq_false_iff_ne, bne_iff_ne, bne_eq_false_iff_eq, ne_eq] at *); omega)) rfl rfl rfl ?_
      refine d_load rfl rfl rfl (s_own (by repeat (first | exact .head _ | refine .tail _ ?_ | refine List.mem_append_right _ ?_)) (times_cell (k := k) (by (try simp only [decide_eq_true_eq, decide_eq_false_iff_not, beq_iff_eq, beq_eq_false_iff_ne, bne_iff_ne, bne_eq_false_iff_eq, ne_eq] at *); omega))) rfl rfl ?_
      refine d_light rfl rfl rfl rfl rfl ?_
      refine d_light rfl rfl rfl rfl rfl ?_
      refine d_light rfl (light_fa rfl rfl) rfl rfl rfl ?_
      refine d_load rfl rfl rfl (s_old r0 (by simp)) rfl rfl ?_
      refine d_light rfl rfl rfl rfl rfl ?_
      refine d_light rfl (idx_slice k rfl rfl rfl rfl (by omega)) rfl rfl rfl ?_
      refine d_light rfl (light_fa rfl rfl) rfl rfl rfl ?_
      refine d_load rfl rfl rfl (s_old (mark_t hr (by omega)) (by simp)) rfl rfl ?_
      refine d_sure false rfl rfl rfl rfl (by rw [hT.tm]; simp) ?_
      refine d_nil ?_
      refine c_false rfl ?_
      refine c_skip ?_
      refine c_region ?_
      refine l_l rfl rfl rfl ?_
      refine l_l rfl rfl rfl ?_
      refine l_nil ?_
      exact ⟨k + 1, by omega, by omega, .cons (congrArg _ (succ_law (by omega))) .nil, (by repeat (first | exact Agree.refl _ _ | exact Agree.mix rfl | refine Agree.put rfl ?_ | refine Agree.keep rfl ?_)), fun _ h => h⟩
    · refine c_exit rfl ?_
      refine c_seq ?_
      refine c_region ?_
      refine l_l rfl rfl rfl ?_
      refine l_l rfl rfl rfl ?_
      refine l_x (x_call call_12 rfl (fun w hw => Before_fn b cap ms hR (by omega) x w (hL.later0 hw) (hD.later0 hw))) rfl rfl ?_
      rintro _ _ ⟨G50, ⟨v50, rfl, hV50⟩, rfl⟩
      obtain ⟨a50, c50, rfl, hc50, hB50⟩ := hV50.slice
      refine l_l rfl rfl rfl ?_
      refine l_l rfl rfl rfl ?_
      refine l_l rfl rfl rfl ?_
      refine l_l rfl rfl rfl ?_
      refine l_l rfl rfl rfl ?_
      refine l_l rfl rfl rfl ?_
      refine l_l rfl rfl rfl ?_
      refine l_nil ?_
      refine c_seq ?_
      refine c_region ?_
      refine l_l rfl rfl rfl ?_
      refine l_l rfl rfl rfl ?_
      refine l_x (x_val call_25 rfl (fun w hw => rbefore_fn b2 cap lack ws (hT.rise hR) (by omega) x w (hL3.later0 hw))) rfl rfl ?_
      rintro _ _ ⟨rfl, rfl⟩
      refine l_l rfl rfl rfl ?_
      refine l_nil ?_
      refine c_seq ?_
      refine c_region ?_
      refine l_l rfl rfl rfl ?_
      refine l_x (x_val call_19 rfl (fun w hw => last_fn b cap ms (by omega) w (hL.later0 hw))) rfl rfl ?_
      rintro _ _ ⟨rfl, rfl⟩
      refine l_l rfl rfl rfl ?_
      refine l_l rfl rfl rfl ?_
      refine l_l rfl rfl rfl ?_
      refine l_l rfl rfl rfl ?_
      refine l_l rfl rfl rfl ?_
      refine l_nil ?_
      refine c_seq ?_
      refine c_region ?_
      refine l_l rfl rfl rfl ?_
      refine l_l rfl rfl rfl ?_
      refine l_x (x_val call_18 rfl (fun w hw => cost_fn b cap ms hR (by omega) x hx w (hL.later0 hw))) rfl rfl ?_
      rintro _ _ ⟨rfl, rfl⟩
      refine l_l rfl rfl rfl ?_
      refine l_l rfl rfl rfl ?_
      refine l_l rfl rfl rfl ?_
      refine l_l rfl rfl rfl ?_
      refine l_l rfl rfl rfl ?_
      refine l_nil ?_
      refine c_seq ?_
      refine c_seq ?_
      refine c_region ?_
      refine l_l rfl rfl rfl ?_
      refine l_l rfl rfl rfl ?_
      refine l_nil ?_
      refine c_cond rfl (fun h2 => ?_) (fun h2 => ?_)
      · refine c_seq ?_
        have hb : bef ms x < 0 := by rw [hT.bef]; (try simp only [decide_eq_true_eq, decide_eq_false_iff_not, beq_iff_eq, beq_eq_false_iff_ne, bne_iff_ne, bne_eq_false_iff_eq, ne_eq] at *); omega
        refine c_region ?_
        refine l_l rfl rfl rfl ?_
        refine l_sure true rfl rfl rfl (by rw [befM_none hb]; rfl) ?_
        refine l_l rfl rfl rfl ?_
        refine l_l rfl rfl rfl ?_
        refine l_l (by first | exact light_len rfl rfl | exact light_lens rfl rfl | rfl) rfl rfl ?_
        refine l_sure true rfl rfl rfl (by rw [befM_none hb]; rfl) ?_
        refine l_l rfl rfl rfl ?_
        refine l_l rfl rfl rfl ?_
        refine l_l rfl rfl rfl ?_
        refine l_sure true rfl rfl rfl (by rw [decide_eq_false (by omega)]; rfl) ?_
        refine l_l rfl rfl rfl ?_
        refine l_l rfl rfl rfl ?_
        refine l_l rfl rfl rfl ?_
        refine l_sure true rfl rfl rfl (by rw [costI, if_pos hb]; rfl) ?_
        refine l_l rfl rfl rfl ?_
        refine l_l rfl rfl rfl ?_
        refine l_l rfl rfl rfl ?_
        refine l_sure true rfl rfl rfl (by rw [decide_eq_false (by omega)]; rfl) ?_
        refine l_l rfl rfl rfl ?_
        refine l_l rfl rfl rfl ?_
        refine l_l rfl rfl rfl ?_
        refine l_l rfl rfl rfl ?_
        refine l_l rfl rfl rfl ?_
        refine l_l (light_fa rfl rfl) rfl rfl ?_
        refine l_x (x_load rfl rfl (at_old r0 (by simp))) rfl rfl ?_
        rintro _ _ ⟨rfl, rfl⟩
        refine l_l (by first | exact light_len rfl rfl | exact light_lens rfl rfl | rfl) rfl rfl ?_
        refine l_l rfl rfl rfl ?_
        refine l_sure true (light_eqb rfl rfl rfl) rfl rfl (len_eq hT.len) ?_
        refine l_l rfl rfl rfl ?_
        refine l_l rfl rfl rfl ?_
        refine l_nil ?_
        refine c_ret ?_
        exact l_end0 (fun _ _ => rets_v rfl) ⟨rfl, rfl⟩
      · refine c_skip ?_
        refine c_seq ?_
        have hb : ¬ bef ws x < 0 := by (try simp only [decide_eq_true_eq, decide_eq_false_iff_not, beq_iff_eq, beq_eq_false_iff_ne, bne_iff_ne, bne_eq_false_iff_eq, ne_eq] at *); omega
        obtain ⟨hb1, hb2⟩ := bef_lt hb
        obtain ⟨br, off, rfl, hr⟩ := hE (by omega)
        refine c_draw _ [4, 5, 6, 7, 8, 9] (.step true 0 (.step true 1 (.step true 2 (.step true 3 (.step true 4 (.step true 5 (.step true 6 (.step true 7 (.step true 8 (.step true 9 (.step true 10 (.step true 11 (.step true 12 (.step true 13 .done)))))))))))))) rfl (by kernel_rfl) (by kernel_rfl) (fun _ h => h) ?_
        refine d_light rfl rfl rfl rfl rfl ?_
        refine d_light rfl rfl rfl rfl rfl ?_
        refine d_light rfl (light_fa rfl rfl) rfl rfl rfl ?_
        refine d_load rfl rfl rfl (s_old r0 (by simp)) rfl rfl ?_
        refine d_light rfl rfl rfl rfl rfl ?_
        refine d_light rfl rfl rfl rfl rfl ?_
        refine d_light rfl (light_fa rfl rfl) rfl rfl rfl ?_
        refine d_load rfl rfl rfl (s_old r0 (by simp)) rfl rfl ?_
        refine d_light rfl (by first | exact light_len rfl rfl | exact light_lens rfl rfl | rfl) rfl rfl rfl ?_
        refine d_as (v := (.int .i64 ((ws.length - 1 : Nat) : Int))) rfl rfl rfl rfl rfl (congrArg _ (len1 (by omega) (by omega))) ?_
        refine d_light rfl (idx_slice (ws.length - 1) rfl rfl rfl rfl (by omega)) rfl rfl rfl ?_
        refine d_light rfl (light_fa rfl rfl) rfl rfl rfl ?_
        refine d_load rfl rfl rfl (s_old (mark_t hr (by omega)) (by simp)) rfl rfl ?_
        refine d_light rfl rfl rfl rfl rfl ?_
        refine d_nil ?_
        refine c_seq ?_
        refine c_region ?_
        refine l_l rfl rfl rfl ?_
        refine l_l rfl rfl rfl ?_
        refine l_l rfl rfl rfl ?_
        refine l_l (light_fa rfl rfl) rfl rfl ?_
        refine l_x (x_load rfl rfl (at_old r0 (by simp))) rfl rfl ?_
        rintro _ _ ⟨rfl, rfl⟩
        refine l_l rfl rfl rfl ?_
        refine l_l (idx_slice (bef ws x).toNat rfl rfl rfl hb2.symm hb1) rfl rfl ?_
        refine l_l (light_fa rfl rfl) rfl rfl ?_
        refine l_x (x_load rfl rfl (at_old (mark_t hr hb1) (by simp))) rfl rfl ?_
        rintro _ _ ⟨rfl, rfl⟩
        refine l_sure true rfl rfl rfl (by rw [tw_hit hT hb]; simp) ?_
        refine l_l rfl rfl rfl ?_
        refine l_l rfl rfl rfl ?_
        refine l_l rfl rfl rfl ?_
        refine l_l rfl rfl rfl ?_
        refine l_l (light_fa rfl rfl) rfl rfl ?_
        refine l_x (x_load rfl rfl (at_old r0 (by simp))) rfl rfl ?_
        rintro _ _ ⟨rfl, rfl⟩
        refine l_l rfl rfl rfl ?_
        refine l_l (idx_slice (bef ws x).toNat rfl rfl rfl hb2.symm hb1) rfl rfl ?_
        refine l_l (light_fa rfl rfl) rfl rfl ?_
        refine l_x (x_load rfl rfl (at_old (mark_d hr hb1) (by simp))) rfl rfl ?_
        rintro _ _ ⟨rfl, rfl⟩
        refine l_x (x_val call_13 rfl (fun w hw => same2_fn _ _ _ _ (befM ms x).l (ws.getD (bef ws x).toNat m0).l (hD _ (befM_mem (by rw [hT.bef]; exact hb))).2.1 w (hB50 _ _ _ _ hw (fun x hx => by simp only [List.mem_append, List.mem_cons]; simp only [hx, true_or, or_true])) ((hD2 _ (by rw [befM_some hb]; exact befM_mem hb)).2.2.later0 hw))) rfl rfl ?_
        rintro _ _ ⟨rfl, rfl⟩
        refine l_sure true rfl rfl rfl (decide_eq_true (by rw [befM_some hb]; exact hT.befL x)) ?_
        refine l_l rfl rfl rfl ?_
        refine l_l rfl rfl rfl ?_
        refine l_sure true rfl rfl rfl (decide_eq_true (by rw [hT.bef]; omega)) ?_
        refine l_l rfl rfl rfl ?_
        refine l_l rfl rfl rfl ?_
        refine l_l rfl rfl rfl ?_
        refine l_sure true rfl rfl rfl (by rw [hT.last, lastT_some (by omega)]; simp) ?_
        refine l_l rfl rfl rfl ?_
        refine l_l rfl rfl rfl ?_
        refine l_l rfl rfl rfl ?_
        refine l_sure true rfl rfl rfl (decide_eq_true (by omega)) ?_
        refine l_l rfl rfl rfl ?_
        refine l_l rfl rfl rfl ?_
        refine l_sure true rfl rfl rfl (decide_eq_true (by rw [hT.bef]; omega)) ?_
        refine l_l rfl rfl rfl ?_
        refine l_l rfl rfl rfl ?_
        refine l_l rfl rfl rfl ?_
        refine l_l rfl rfl rfl ?_
        refine l_l (light_min rfl rfl) rfl rfl ?_
        refine l_l rfl rfl rfl ?_
        refine l_l rfl rfl rfl ?_
        refine l_l (light_fa rfl rfl) rfl rfl ?_
        refine l_x (x_load rfl rfl (at_old r0 (by simp))) rfl rfl ?_
        rintro _ _ ⟨rfl, rfl⟩
        refine l_l rfl rfl rfl ?_
        refine l_l (idx_slice (bef ws x).toNat rfl rfl rfl hb2.symm hb1) rfl rfl ?_
        refine l_l (light_fa rfl rfl) rfl rfl ?_
        refine l_x (x_load rfl rfl (at_old (mark_t hr hb1) (by simp))) rfl rfl ?_
        rintro _ _ ⟨rfl, rfl⟩
        refine l_l rfl rfl rfl ?_
        refine l_sure true rfl rfl rfl (by rw [cost_law hR (by rw [hT.bef]; exact hb), hT.last, lastT_some (by omega), hT.bef, hT.tm]; simp) ?_
        refine l_l rfl rfl rfl ?_
        refine l_l rfl rfl rfl ?_
        refine l_nil ?_
        refine c_ret ?_
        exact l_end0 (fun _ _ => rets_v rfl) ⟨rfl, rfl⟩

set_option maxHeartbeats 8000000 in
theorem plays_fn (n : Int) (a : Option Addr) (cap : Nat) (l : List Int) (hl : Byts l) (x : Int) (hx : 0 ≤ x) (w : World) (hN : Ns w .u8 a l) :
    Does Try.prog 6 [.int .i64 n, .slice a l.length cap, .int .u64 x] w [] (fun v H => H = [] ∧ v = .bool true) := by
  have hcap := cap_ok n
  refine does_of Try.func6 rfl rfl rfl (St.refl w) ?_
  refine c_seq ?_
  refine c_region ?_
  refine l_l rfl rfl rfl ?_
  refine l_nil ?_
  refine c_seq ?_
  refine c_seq ?_
  refine c_region ?_
  refine l_x (x_val call_9 rfl (fun w hw => awake_fn w)) rfl rfl ?_
  rintro _ _ ⟨rfl, rfl⟩
  refine l_l rfl rfl rfl ?_
  refine l_b rfl rfl rfl (fun h1 => ?_) (fun h1 => ?_)
  · refine l_p rfl rfl ?_
    refine l_p rfl rfl ?_
    refine l_p rfl rfl ?_
    refine l_l rfl rfl rfl ?_
    refine l_nil ?_
    refine c_true rfl ?_
    refine c_seq ?_
    refine c_region ?_
    refine l_x (x_val call_9 rfl (fun w hw => awake_fn w)) rfl rfl ?_
    rintro _ _ ⟨rfl, rfl⟩
    refine l_l rfl rfl rfl ?_
    refine l_nil ?_
    refine c_ret ?_
    exact l_end0 (fun _ _ => rets_v rfl) ⟨rfl, rfl⟩
  · refine l_l rfl rfl rfl ?_
    refine l_l (by first | exact light_len rfl rfl | exact light_lens rfl rfl | rfl) rfl rfl ?_
    refine l_l rfl rfl rfl ?_
    refine l_l rfl rfl rfl ?_
    refine l_nil ?_
    refine c_cond rfl (fun h2 => ?_) (fun h2 => ?_)
    · refine c_seq ?_
      refine c_region ?_
      refine l_x (x_val call_9 rfl (fun w hw => awake_fn w)) rfl rfl ?_
      rintro _ _ ⟨rfl, rfl⟩
      refine l_l rfl rfl rfl ?_
      refine l_nil ?_
      refine c_ret ?_
      exact l_end0 (fun _ _ => rets_v rfl) ⟨rfl, rfl⟩
    · refine c_skip ?_
      refine c_seq ?_
      refine c_region ?_
      refine l_l rfl rfl rfl ?_
      refine l_x (x_call call_10 rfl (fun w hw => new_fn n w)) rfl rfl ?_
      rintro _ _ ⟨G21, ⟨bl, rfl, rfl⟩, rfl⟩
      refine l_l rfl rfl rfl ?_
      refine l_x (x_call call_15 rfl (fun w hw => rnew_fn n w)) rfl rfl ?_
      rintro _ _ ⟨G23, ⟨bR, rfl, rfl⟩, rfl⟩
      refine l_l rfl rfl rfl ?_
      refine l_l rfl rfl rfl ?_
      refine l_nil ?_
      refine c_seq ?_
      refine c_region ?_
      refine l_l rfl rfl rfl ?_
      refine l_nil ?_
      refine c_seq ?_
      refine c_seq ?_
      refine c_region ?_
      refine l_l rfl rfl rfl ?_
      refine l_l (by first | exact light_len rfl rfl | exact light_lens rfl rfl | rfl) rfl rfl ?_
      refine l_l rfl rfl rfl ?_
      refine l_nil ?_
      refine c_block ?_
      refine c_loop (σ := PS) [6, 9, 10, 11, 26, 27, 28, 29, 30, 31, 32, 33, 34, 35, 36, 37, 38, 39, 40, 41, 42, 43, 44, 45, 46, 47, 48, 49, 50, 51, 52, 53, 54, 55, 56, 57, 58, 59, 60, 61, 62, 63, 64, 65, 66, 67, 68, 69, 70, 71, 72, 73, 74, 75, 76, 77, 78, 79] (fun s => [(9, .int .u64 s.t), (26, .int .i64 s.k)]) (fun s => s.G ++ (s.G2 ++ s.D)) (fun s => s.k ≤ l.length ∧ s.t ≤ s.k * 8 ∧ PJ bl bR (max 2 (min n 256)) s.t s.ms s.ws s.lack s.G s.G2 s.D) (fun s => l.length - s.k) ⟨0, 0, [], [], false, [(bl, blk [.slice none 0 0, .int .i64 (max 2 (min n 256))] 53)], [(bR, blk [.slice none 0 0, .int .i64 (max 2 (min n 256)), .bool false] 47)], []⟩ ?_ ?_ ?_ ?_
      · exact ⟨Nat.zero_le _, by simp, PJ.start bl bR _⟩
      · exact .cons rfl (.cons rfl .nil)
      · exact fun _ h => h.perm (List.Perm.swap _ _ _)
      · rintro ⟨k, t, ms, ws, lack, G, G2, D⟩ y ⟨hk, htk, hJ⟩
        dsimp only at hk htk hJ ⊢
        refine c_seq ?_
        refine c_region ?_
        refine l_l rfl rfl rfl ?_
        refine l_nil ?_
        refine c_seq ?_
        refine c_cond rfl (fun h3 => ?_) (fun h3 => ?_)
        · refine c_skip ?_
          refine c_seq ?_
          refine c_block ?_
          refine c_seq ?_
          refine c_region ?_
          refine l_l rfl rfl rfl ?_
          refine l_l rfl rfl rfl ?_
          refine l_nil ?_
          refine c_cut (σ := Int) [9, 29, 30, 31, 32, 33, 34, 35, 36, 37, 38, 39, 40, 41, 42, 43, 44, 45] (fun t' => [(9, .int .u64 t')]) (fun _ => G ++ (G2 ++ D)) (fun t' => 0 ≤ t' ∧ t' ≤ t + 8) ?_ ?_
          · refine c_seq ?_
            obtain ⟨bN, oN, rfl, hr⟩ := hN.row (i := k) (by (try simp only [decide_eq_true_eq, decide_eq_false_iff_not, beq_iff_eq, beq_eq_false_iff_ne, bne_iff_ne, bne_eq_false_iff_eq, ne_eq] at *); omega)
            refine c_region ?_
            refine l_l rfl rfl rfl ?_
            refine l_l rfl rfl rfl ?_
            refine l_b rfl rfl rfl (fun h4 => ?_) (fun h4 => ?_)
            · refine l_p rfl rfl ?_
              refine l_p rfl rfl ?_
              refine l_p rfl rfl ?_
              refine l_p rfl rfl ?_
              refine l_p rfl rfl ?_
              refine l_l rfl rfl rfl ?_
              refine l_nil ?_
              refine c_true rfl ?_
              refine c_region ?_
              refine l_l rfl rfl rfl ?_
              refine l_l rfl rfl rfl ?_
              refine l_l rfl rfl rfl ?_
              refine l_l (idx_slice1 k rfl rfl rfl rfl (by (try simp only [decide_eq_true_eq, decide_eq_false_iff_not, beq_iff_eq, beq_eq_false_iff_ne, bne_iff_ne, bne_eq_false_iff_eq, ne_eq] at *); omega)) rfl rfl ?_
              refine l_x (x_load rfl rfl (at_old (hr.int (by (try simp only [decide_eq_true_eq, decide_eq_false_iff_not, beq_iff_eq, beq_eq_false_iff_ne, bne_iff_ne, bne_eq_false_iff_eq, ne_eq] at *); omega)) (by simp))) rfl rfl ?_
              rintro _ _ ⟨rfl, rfl⟩
              refine l_l (rem_pos rfl rfl (by decide)) rfl rfl ?_
              refine l_l rfl rfl rfl ?_
              refine l_as (v := (.int .u64 (t + l.getD k 0 % 8))) rfl rfl rfl (congrArg _ (step8 hJ.lo (by (try simp only [decide_eq_true_eq, decide_eq_false_iff_not, beq_iff_eq, beq_eq_false_iff_ne, bne_iff_ne, bne_eq_false_iff_eq, ne_eq] at *); omega) (hl.get k))) ?_
              refine l_l rfl rfl rfl ?_
              refine l_nil ?_
              exact ⟨_, ⟨by have := hJ.lo; have := hl.get k; omega, by have := hl.get k; omega⟩, .cons rfl .nil, (by repeat (first | exact Agree.refl _ _ | exact Agree.mix rfl | refine Agree.put rfl ?_ | refine Agree.keep rfl ?_)), fun _ h => h⟩
            · refine l_l rfl rfl rfl ?_
              refine l_l rfl rfl rfl ?_
              refine l_l (idx_slice1 k rfl rfl rfl rfl (by (try simp only [decide_eq_true_eq, decide_eq_false_iff_not, beq_iff_eq, beq_eq_false_iff_ne, bne_iff_ne, bne_eq_false_iff_eq, ne_eq] at *); omega)) rfl rfl ?_
              refine l_x (x_load rfl rfl (at_old (hr.int (by (try simp only [decide_eq_true_eq, decide_eq_false_iff_not, beq_iff_eq, beq_eq_false_iff_ne, bne_iff_ne, bne_eq_false_iff_eq, ne_eq] at *); omega)) (by simp))) rfl rfl ?_
              rintro _ _ ⟨rfl, rfl⟩
              refine l_l rfl rfl rfl ?_
              refine l_l rfl rfl rfl ?_
              refine l_nil ?_
              refine c_cond rfl (fun h5 => ?_) (fun h5 => ?_)
              · refine c_region ?_
                refine l_l rfl rfl rfl ?_
                refine l_l rfl rfl rfl ?_
                refine l_l rfl rfl rfl ?_
                refine l_l (idx_slice1 k rfl rfl rfl rfl (by (try simp only [decide_eq_true_eq, decide_eq_false_iff_not, beq_iff_eq, beq_eq_false_iff_ne, bne_iff_ne, bne_eq_false_iff_eq, ne_eq] at *); omega)) rfl rfl ?_
                refine l_x (x_load rfl rfl (at_old (hr.int (by (try simp only [decide_eq_true_eq, decide_eq_false_iff_not, beq_iff_eq, beq_eq_false_iff_ne, bne_iff_ne, bne_eq_false_iff_eq, ne_eq] at *); omega)) (by simp))) rfl rfl ?_
                rintro _ _ ⟨rfl, rfl⟩
                refine l_l (rem_pos rfl rfl (by decide)) rfl rfl ?_
                refine l_l rfl rfl rfl ?_
                refine l_as (v := (.int .u64 (t + l.getD k 0 % 8))) rfl rfl rfl (congrArg _ (step8 hJ.lo (by (try simp only [decide_eq_true_eq, decide_eq_false_iff_not, beq_iff_eq, beq_eq_false_iff_ne, bne_iff_ne, bne_eq_false_iff_eq, ne_eq] at *); omega) (hl.get k))) ?_
                refine l_l rfl rfl rfl ?_
                refine l_nil ?_
                exact ⟨_, ⟨by have := hJ.lo; have := hl.get k; omega, by have := hl.get k; omega⟩, .cons rfl .nil, (by repeat (first | exact Agree.refl _ _ | exact Agree.mix rfl | refine Agree.put rfl ?_ | refine Agree.keep rfl ?_)), fun _ h => h⟩
              · refine c_skip ?_
                exact ⟨_, ⟨hJ.lo, by omega⟩, .cons rfl .nil, (by repeat (first | exact Agree.refl _ _ | exact Agree.mix rfl | refine Agree.put rfl ?_ | refine Agree.keep rfl ?_)), fun _ h => h⟩
          · rintro t' y9 ⟨ht0, ht8⟩
            refine c_seq ?_
            obtain ⟨bN, oN, rfl, hr⟩ := hN.row (i := k) (by (try simp only [decide_eq_true_eq, decide_eq_false_iff_not, beq_iff_eq, beq_eq_false_iff_ne, bne_iff_ne, bne_eq_false_iff_eq, ne_eq] at *); omega)
            refine c_region ?_
            refine l_l rfl rfl rfl ?_
            refine l_l rfl rfl rfl ?_
            refine l_l rfl rfl rfl ?_
            refine l_l rfl rfl rfl ?_
            refine l_l (idx_slice1 k rfl rfl rfl rfl (by (try simp only [decide_eq_true_eq, decide_eq_false_iff_not, beq_iff_eq, beq_eq_false_iff_ne, bne_iff_ne, bne_eq_false_iff_eq, ne_eq] at *); omega)) rfl rfl ?_
            refine l_x (x_load rfl rfl (at_old (hr.int (by (try simp only [decide_eq_true_eq, decide_eq_false_iff_not, beq_iff_eq, beq_eq_false_iff_ne, bne_iff_ne, bne_eq_false_iff_eq, ne_eq] at *); omega)) (by simp))) rfl rfl ?_
            rintro _ _ ⟨rfl, rfl⟩
            refine l_x (x_slc rfl rfl rfl rfl rfl rfl) rfl rfl ?_
            rintro _ _ ⟨b52, rfl, rfl⟩
            refine l_l rfl rfl rfl ?_
            refine l_nil ?_
            refine c_seq ?_
            have hml := hJ.len
            by_cases herr : addErr ms t' = 0
            · refine c_region ?_
              refine l_l rfl rfl rfl ?_
              refine l_l rfl rfl rfl ?_
              refine l_l rfl rfl rfl ?_
              refine l_heap (H' := G ++ (G2 ++ (D ++ [(b52, blk ([IntKind.u8.wrap k, l.getD k 0].map (.int .u8)) 5)]))) (fun _ h => St.fl [[_], G, G2, D] [1, 2, 3, 0] rfl h) ?_
              refine l_x (x_callF (A := G) (G := G2 ++ (D ++ [(b52, blk ([IntKind.u8.wrap k, l.getD k 0].map (.int .u8)) 5)])) _ call_11 rfl (fun _ hb => mem_fst hb) (fun w hw => add_ok bl _ (cap_ok n) ms hJ.rise (by omega) t' ht0 _ _ [IntKind.u8.wrap k, l.getD k 0] (by simp) G w hJ.line (St.lend hw) (byt_away (l := [IntKind.u8.wrap k, l.getD k 0]) hw (List.mem_append_right _ (List.mem_append_right _ (.head _)))) herr)) rfl rfl ?_
              rintro _ _ ⟨_, ⟨rfl, mk, G', D1, e1, f1, g1, rfl, hL', hB1⟩, rfl⟩
              refine l_heap (H' := G2 ++ (G' ++ (D1 ++ (D ++ [(b52, blk ([IntKind.u8.wrap k, l.getD k 0].map (.int .u8)) 5)])))) (fun _ h => by rw [List.append_assoc] at h; exact St.fl [G', D1, G2, D, [_]] [2, 0, 1, 3, 4] rfl h) ?_
              refine l_l rfl rfl rfl ?_
              refine l_l rfl rfl rfl ?_
              refine l_l rfl rfl rfl ?_
              refine l_x (x_callF (A := G2) (G := (G' ++ (D1 ++ (D ++ [(b52, blk ([IntKind.u8.wrap k, l.getD k 0].map (.int .u8)) 5)])))) _ call_16 rfl (fun _ hb => mem_fst hb) (fun w hw => radd_ok bR _ (cap_ok n) lack ws hJ.rise2 (by have := hJ.tw.len; omega) t' ht0 _ _ [IntKind.u8.wrap k, l.getD k 0] (by simp) G2 w hJ.ref (St.lend hw) (byt_away (l := [IntKind.u8.wrap k, l.getD k 0]) hw (List.mem_append_right _ (List.mem_append_right _ (List.mem_append_right _ (.head _))))) (fun h => by cases h) (by rw [← hJ.tw.err]; exact herr))) rfl rfl ?_
              rintro _ _ ⟨_, ⟨rfl, mk', G2', D2, e2, f2, g2, rfl, hL2', hB2⟩, rfl⟩
              have hJ' := hJ.step (cap_ok n).1 ht0 herr e1 e2 f1 f2 (by simp) g1 g2 hL' hL2' hB1 hB2
              refine l_sure false rfl rfl rfl rfl ?_
              refine l_l rfl rfl rfl ?_
              refine l_l rfl rfl rfl ?_
              refine l_l rfl rfl rfl ?_
              refine l_l rfl rfl rfl ?_
              refine l_l rfl rfl rfl ?_
              refine l_as (v := (.int .u64 (t' + 3))) rfl rfl rfl (congrArg _ (wrap_u64_id (by omega) (by (try simp only [decide_eq_true_eq, decide_eq_false_iff_not, beq_iff_eq, beq_eq_false_iff_ne, bne_iff_ne, bne_eq_false_iff_eq, ne_eq] at *); omega))) ?_
              refine l_l (rem_pos rfl rfl (by omega)) rfl rfl ?_
              refine l_x (x_val call_17 rfl (fun w hw => same_fn bl bR _ _ _ _ hJ'.rise (by have := hJ'.len; omega) hJ'.tw (x.tmod (t' + 3)) (Int.tmod_nonneg _ hx) w (hJ'.line.lineW hw (fun x hx => by simp only [List.mem_append, List.mem_cons] at hx ⊢; first | (simp only [hx, true_or, or_true]; done) | (rcases hx with hx | hx | hx <;> simp only [hx, true_or, or_true]))) (hJ'.dat.datW hw (fun x hx => by simp only [List.mem_append, List.mem_cons] at hx ⊢; first | (simp only [hx, true_or, or_true]; done) | (rcases hx with hx | hx | hx <;> simp only [hx, true_or, or_true]))) (hJ'.ref.lineW hw (fun x hx => by simp only [List.mem_append, List.mem_cons] at hx ⊢; first | (simp only [hx, true_or, or_true]; done) | (rcases hx with hx | hx | hx <;> simp only [hx, true_or, or_true]))) (hJ'.dat2.datW hw (fun x hx => by simp only [List.mem_append, List.mem_cons] at hx ⊢; first | (simp only [hx, true_or, or_true]; done) | (rcases hx with hx | hx | hx <;> simp only [hx, true_or, or_true]))))) rfl rfl ?_
              rintro _ _ ⟨rfl, rfl⟩
              refine l_sure false rfl rfl rfl rfl ?_
              refine l_l rfl rfl rfl ?_
              refine l_l rfl rfl rfl ?_
              refine l_l rfl rfl rfl ?_
              refine l_l rfl rfl rfl ?_
              refine l_l rfl rfl rfl ?_
              refine l_x (x_val call_17 rfl (fun w hw => same_fn bl bR _ _ _ _ hJ'.rise (by have := hJ'.len; omega) hJ'.tw x hx w (hJ'.line.lineW hw (fun x hx => by simp only [List.mem_append, List.mem_cons] at hx ⊢; first | (simp only [hx, true_or, or_true]; done) | (rcases hx with hx | hx | hx <;> simp only [hx, true_or, or_true]))) (hJ'.dat.datW hw (fun x hx => by simp only [List.mem_append, List.mem_cons] at hx ⊢; first | (simp only [hx, true_or, or_true]; done) | (rcases hx with hx | hx | hx <;> simp only [hx, true_or, or_true]))) (hJ'.ref.lineW hw (fun x hx => by simp only [List.mem_append, List.mem_cons] at hx ⊢; first | (simp only [hx, true_or, or_true]; done) | (rcases hx with hx | hx | hx <;> simp only [hx, true_or, or_true]))) (hJ'.dat2.datW hw (fun x hx => by simp only [List.mem_append, List.mem_cons] at hx ⊢; first | (simp only [hx, true_or, or_true]; done) | (rcases hx with hx | hx | hx <;> simp only [hx, true_or, or_true]))))) rfl rfl ?_
              rintro _ _ ⟨rfl, rfl⟩
              refine l_sure false rfl rfl rfl rfl ?_
              refine l_l rfl rfl rfl ?_
              refine l_nil ?_
              refine c_false rfl ?_
              refine c_skip ?_
              refine c_region ?_
              refine l_l rfl rfl rfl ?_
              refine l_l rfl rfl rfl ?_
              refine l_nil ?_
              exact ⟨⟨k + 1, t', _, _, _, G', G2', D2 ++ (D1 ++ D)⟩, ⟨by (try simp only [decide_eq_true_eq, decide_eq_false_iff_not, beq_iff_eq, beq_eq_false_iff_ne, bne_iff_ne, bne_eq_false_iff_eq, ne_eq] at *); omega, by dsimp only; omega, hJ'⟩, by (try simp only [decide_eq_true_eq, decide_eq_false_iff_not, beq_iff_eq, beq_eq_false_iff_ne, bne_iff_ne, bne_eq_false_iff_eq, ne_eq] at *); omega, .cons rfl (.cons (congrArg _ (succ_law (by (try simp only [decide_eq_true_eq, decide_eq_false_iff_not, beq_iff_eq, beq_eq_false_iff_ne, bne_iff_ne, bne_eq_false_iff_eq, ne_eq] at *); omega))) .nil), (by repeat (first | exact Agree.refl _ _ | exact Agree.mix rfl | refine Agree.put rfl ?_ | refine Agree.keep rfl ?_)), fun _ h => by rw [List.append_assoc] at h; exact St.fl [G2', D2, G', D1, D, [_]] [2, 0, 1, 3, 4] rfl h⟩
            · refine c_region ?_
              refine l_l rfl rfl rfl ?_
              refine l_l rfl rfl rfl ?_
              refine l_l rfl rfl rfl ?_
              refine l_heap (H' := G ++ (G2 ++ (D ++ [(b52, blk ([IntKind.u8.wrap k, l.getD k 0].map (.int .u8)) 5)]))) (fun _ h => St.fl [[_], G, G2, D] [1, 2, 3, 0] rfl h) ?_
              refine l_x (x_callF (A := G) (G := G2 ++ (D ++ [(b52, blk ([IntKind.u8.wrap k, l.getD k 0].map (.int .u8)) 5)])) _ call_11 rfl (fun _ hb => mem_fst hb) (fun w hw => add_no bl _ (cap_ok n) ms hJ.rise (by omega) t' ht0 _ _ [IntKind.u8.wrap k, l.getD k 0] (by simp) G w hJ.line (St.lend hw) (byt_away (l := [IntKind.u8.wrap k, l.getD k 0]) hw (List.mem_append_right _ (List.mem_append_right _ (.head _)))) (addErr ms t') rfl herr)) rfl rfl ?_
              rintro _ _ ⟨H9, ⟨rfl, hH9⟩, rfl⟩
              rw [hH9]
              refine l_heap (H' := G2 ++ (G ++ (D ++ [(b52, blk ([IntKind.u8.wrap k, l.getD k 0].map (.int .u8)) 5)]))) (fun _ h => St.fl [G, G2, D, [_]] [1, 0, 2, 3] rfl h) ?_
              refine l_l rfl rfl rfl ?_
              refine l_l rfl rfl rfl ?_
              refine l_l rfl rfl rfl ?_
              refine l_x (x_callF (A := G2) (G := (G ++ (D ++ [(b52, blk ([IntKind.u8.wrap k, l.getD k 0].map (.int .u8)) 5)]))) _ call_16 rfl (fun _ hb => mem_fst hb) (fun w hw => radd_no bR _ (cap_ok n) lack ws hJ.rise2 (by have := hJ.tw.len; omega) t' ht0 _ _ [IntKind.u8.wrap k, l.getD k 0] (by simp) G2 w hJ.ref (St.lend hw) (byt_away (l := [IntKind.u8.wrap k, l.getD k 0]) hw (List.mem_append_right _ (List.mem_append_right _ (.head _)))) (fun h => by cases h) (addErr ws t') rfl (by rw [← hJ.tw.err]; exact herr))) rfl rfl ?_
              rintro _ _ ⟨H9, ⟨rfl, hH9⟩, rfl⟩
              rw [hH9]
              have hJ' := hJ.stay ht0
              refine l_sure false rfl rfl rfl (by rw [hJ.tw.err]; simp) ?_
              refine l_l rfl rfl rfl ?_
              refine l_l rfl rfl rfl ?_
              refine l_l rfl rfl rfl ?_
              refine l_l rfl rfl rfl ?_
              refine l_l rfl rfl rfl ?_
              refine l_as (v := (.int .u64 (t' + 3))) rfl rfl rfl (congrArg _ (wrap_u64_id (by omega) (by (try simp only [decide_eq_true_eq, decide_eq_false_iff_not, beq_iff_eq, beq_eq_false_iff_ne, bne_iff_ne, bne_eq_false_iff_eq, ne_eq] at *); omega))) ?_
              refine l_l (rem_pos rfl rfl (by omega)) rfl rfl ?_
              refine l_x (x_val call_17 rfl (fun w hw => same_fn bl bR _ _ _ _ hJ'.rise (by have := hJ'.len; omega) hJ'.tw (x.tmod (t' + 3)) (Int.tmod_nonneg _ hx) w (hJ'.line.lineW hw (fun x hx => by simp only [List.mem_append, List.mem_cons] at hx ⊢; first | (simp only [hx, true_or, or_true]; done) | (rcases hx with hx | hx | hx <;> simp only [hx, true_or, or_true]))) (hJ'.dat.datW hw (fun x hx => by simp only [List.mem_append, List.mem_cons] at hx ⊢; first | (simp only [hx, true_or, or_true]; done) | (rcases hx with hx | hx | hx <;> simp only [hx, true_or, or_true]))) (hJ'.ref.lineW hw (fun x hx => by simp only [List.mem_append, List.mem_cons] at hx ⊢; first | (simp only [hx, true_or, or_true]; done) | (rcases hx with hx | hx | hx <;> simp only [hx, true_or, or_true]))) (hJ'.dat2.datW hw (fun x hx => by simp only [List.mem_append, List.mem_cons] at hx ⊢; first | (simp only [hx, true_or, or_true]; done) | (rcases hx with hx | hx | hx <;> simp only [hx, true_or, or_true]))))) rfl rfl ?_
              rintro _ _ ⟨rfl, rfl⟩
              refine l_sure false rfl rfl rfl rfl ?_
              refine l_l rfl rfl rfl ?_
              refine l_l rfl rfl rfl ?_
              refine l_l rfl rfl rfl ?_
              refine l_l rfl rfl rfl ?_
              refine l_l rfl rfl rfl ?_
              refine l_x (x_val call_17 rfl (fun w hw => same_fn bl bR _ _ _ _ hJ'.rise (by have := hJ'.len; omega) hJ'.tw x hx w (hJ'.line.lineW hw (fun x hx => by simp only [List.mem_append, List.mem_cons] at hx ⊢; first | (simp only [hx, true_or, or_true]; done) | (rcases hx with hx | hx | hx <;> simp only [hx, true_or, or_true]))) (hJ'.dat.datW hw (fun x hx => by simp only [List.mem_append, List.mem_cons] at hx ⊢; first | (simp only [hx, true_or, or_true]; done) | (rcases hx with hx | hx | hx <;> simp only [hx, true_or, or_true]))) (hJ'.ref.lineW hw (fun x hx => by simp only [List.mem_append, List.mem_cons] at hx ⊢; first | (simp only [hx, true_or, or_true]; done) | (rcases hx with hx | hx | hx <;> simp only [hx, true_or, or_true]))) (hJ'.dat2.datW hw (fun x hx => by simp only [List.mem_append, List.mem_cons] at hx ⊢; first | (simp only [hx, true_or, or_true]; done) | (rcases hx with hx | hx | hx <;> simp only [hx, true_or, or_true]))))) rfl rfl ?_
              rintro _ _ ⟨rfl, rfl⟩
              refine l_sure false rfl rfl rfl rfl ?_
              refine l_l rfl rfl rfl ?_
              refine l_nil ?_
              refine c_false rfl ?_
              refine c_skip ?_
              refine c_region ?_
              refine l_l rfl rfl rfl ?_
              refine l_l rfl rfl rfl ?_
              refine l_nil ?_
              exact ⟨⟨k + 1, t', _, _, _, G, G2, D⟩, ⟨by (try simp only [decide_eq_true_eq, decide_eq_false_iff_not, beq_iff_eq, beq_eq_false_iff_ne, bne_iff_ne, bne_eq_false_iff_eq, ne_eq] at *); omega, by dsimp only; omega, hJ'⟩, by (try simp only [decide_eq_true_eq, decide_eq_false_iff_not, beq_iff_eq, beq_eq_false_iff_ne, bne_iff_ne, bne_eq_false_iff_eq, ne_eq] at *); omega, .cons rfl (.cons (congrArg _ (succ_law (by (try simp only [decide_eq_true_eq, decide_eq_false_iff_not, beq_iff_eq, beq_eq_false_iff_ne, bne_iff_ne, bne_eq_false_iff_eq, ne_eq] at *); omega))) .nil), (by repeat (first | exact Agree.refl _ _ | exact Agree.mix rfl | refine Agree.put rfl ?_ | refine Agree.keep rfl ?_)), fun _ h => St.fl [G2, G, D, [_]] [1, 0, 2] rfl h⟩
        · refine c_exit rfl ?_
          refine c_seq ?_
          refine c_region ?_
          refine l_l rfl rfl rfl ?_
          refine l_l rfl rfl rfl ?_
          refine l_l rfl rfl rfl ?_
          refine l_x (x_val call_17 rfl (fun w hw => same_fn bl bR _ _ _ _ hJ.rise (by have := hJ.len; omega) hJ.tw t hJ.lo w (hJ.line.lineW hw (fun x hx => by simp only [List.mem_append, List.mem_cons] at hx ⊢; first | (simp only [hx, true_or, or_true]; done) | (rcases hx with hx | hx | hx <;> simp only [hx, true_or, or_true]))) (hJ.dat.datW hw (fun x hx => by simp only [List.mem_append, List.mem_cons] at hx ⊢; first | (simp only [hx, true_or, or_true]; done) | (rcases hx with hx | hx | hx <;> simp only [hx, true_or, or_true]))) (hJ.ref.lineW hw (fun x hx => by simp only [List.mem_append, List.mem_cons] at hx ⊢; first | (simp only [hx, true_or, or_true]; done) | (rcases hx with hx | hx | hx <;> simp only [hx, true_or, or_true]))) (hJ.dat2.datW hw (fun x hx => by simp only [List.mem_append, List.mem_cons] at hx ⊢; first | (simp only [hx, true_or, or_true]; done) | (rcases hx with hx | hx | hx <;> simp only [hx, true_or, or_true]))))) rfl rfl ?_
          rintro _ _ ⟨rfl, rfl⟩
          refine l_l rfl rfl rfl ?_
          refine l_nil ?_
          refine c_ret ?_
          exact l_end0 (fun _ _ => rets_v rfl) ⟨rfl, rfl⟩

end Go.Proofs.Ytkifhldkhemdlaa
