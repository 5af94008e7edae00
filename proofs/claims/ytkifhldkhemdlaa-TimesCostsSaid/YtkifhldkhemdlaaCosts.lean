/- The contract of the law of costs. -/
import Derived.Test.YtkifhldkhemdlaaCostMath
import Derived.Test.YtkifhldkhemdlaaPlays
import Derived.Test.YtkifhldkhemdlaaCalls
namespace Go.Proofs.Ytkifhldkhemdlaa
open Go Go.VV Go.Proofs
set_option linter.unusedSimpArgs false
set_option linter.unusedVariables false
set_option maxHeartbeats 8000000 in
theorem costs_fn (x : Int) (hx : 0 ≤ x ∧ x < 65536) (n : Int) (w : World) :
    Does Try.prog 7 [.int .u16 x, .int .i64 n] w [] (fun v H => H = [] ∧ v = .bool true) := by
  have hcap := cap_ok n
  refine does_of Try.func7 rfl rfl rfl (St.refl w) ?_
  refine c_seq ?_
  refine c_region ?_
  refine l_l rfl rfl rfl ?_
  refine l_nil ?_
  refine c_seq ?_
  refine c_seq ?_
  refine c_region ?_
  refine l_x (x_val call_9 rfl (fun w hw => awake_fn w)) rfl rfl ?_
  rintro _ _ ⟨rfl, rfl⟩
  refine l_sure false rfl rfl rfl rfl ?_
  refine l_nil ?_
  refine c_false rfl ?_
  refine c_skip ?_
  refine c_seq ?_
  refine c_region ?_
  refine l_l rfl rfl rfl ?_
  refine l_as (v := (.int .i64 x)) rfl rfl rfl (congrArg _ (wrap_i64 (by omega) (by omega))) ?_
  refine l_as (v := (.int .i64 ((x.toNat % 1500 : Nat) : Int))) (rem_pos rfl rfl (by decide)) rfl rfl (congrArg _ (by rw [Int.tmod_eq_emod_of_nonneg hx.1]; omega)) ?_
  refine l_l rfl rfl rfl ?_
  refine l_nil ?_
  refine c_seq ?_
  have hN : x.toNat % 1500 < 1500 := Nat.mod_lt _ (by decide)
  generalize x.toNat % 1500 = N at *
  refine c_region ?_
  refine l_l rfl rfl rfl ?_
  refine l_x (x_call call_10 rfl (fun w hw => new_fn n w)) rfl rfl ?_
  rintro _ _ ⟨G20, ⟨bl, rfl, rfl⟩, rfl⟩
  refine l_l rfl rfl rfl ?_
  refine l_x (x_call call_15 rfl (fun w hw => rnew_fn n w)) rfl rfl ?_
  rintro _ _ ⟨G22, ⟨bR, rfl, rfl⟩, rfl⟩
  refine l_l rfl rfl rfl ?_
  refine l_l rfl rfl rfl ?_
  refine l_nil ?_
  refine c_seq ?_
  refine c_seq ?_
  refine c_region ?_
  refine l_l rfl rfl rfl ?_
  refine l_as (v := (.int .i64 ((N + 1 : Nat) : Int))) rfl rfl rfl (congrArg _ (succ_law (by omega))) ?_
  refine l_l rfl rfl rfl ?_
  refine l_nil ?_
  refine c_block ?_
  refine c_loop (σ := PS) [4, 8, 25, 26, 27, 28, 29, 30, 31, 32, 33, 34, 35, 36, 37, 38, 39, 40] (fun s => [(25, .int .i64 s.k)]) (fun s => s.G ++ (s.G2 ++ s.D)) (fun s => s.k ≤ N + 1 ∧ CJ bl bR (max 2 (min n 256)) s.k s.ms s.ws s.lack s.G s.G2 s.D) (fun s => N + 1 - s.k) ⟨0, 0, [], [], false, [(bl, blk [.slice none 0 0, .int .i64 (max 2 (min n 256))] 53)], [(bR, blk [.slice none 0 0, .int .i64 (max 2 (min n 256)), .bool false] 47)], []⟩ ?_ ?_ ?_ ?_
  · exact ⟨Nat.zero_le _, CJ.start bl bR _⟩
  · exact .cons rfl .nil
  · exact fun _ h => h.perm (List.Perm.swap _ _ _)
  · rintro ⟨k, t, ms, ws, lack, G, G2, D⟩ y6 ⟨hk, hJ⟩
    dsimp only at hk hJ ⊢
    refine c_seq ?_
    refine c_region ?_
    refine l_l rfl rfl rfl ?_
    refine l_nil ?_
    refine c_seq ?_
    refine c_cond rfl (fun h1 => ?_) (fun h1 => ?_)
    · refine c_skip ?_
      refine c_seq ?_
      refine c_block ?_
      refine c_seq ?_
      refine c_region ?_
      refine l_l rfl rfl rfl ?_
      refine l_l rfl rfl rfl ?_
      refine l_nil ?_
      refine c_seq ?_
      refine c_region ?_
      refine l_l rfl rfl rfl ?_
      refine l_l rfl rfl rfl ?_
      refine l_as (v := (.int .u64 ((k : Nat) : Int))) rfl rfl rfl (congrArg _ (wrap_u64_id (by omega) (by omega))) ?_
      have hml := hJ.pj.len
      have herr := hJ.ok (by omega)
      refine l_x (x_callF (A := G) (G := G2 ++ D) _ call_11 rfl (fun _ hb => mem_fst hb) (fun w hw => add_ok bl _ (cap_ok n) ms hJ.pj.rise (by omega) k (by omega) none 0 [] (by simp) G w hJ.pj.line (St.lend hw) (.inl ⟨rfl, rfl⟩) herr)) rfl rfl ?_
      rintro _ _ ⟨_, ⟨rfl, mk, G', D1, e1, f1, g1, rfl, hL', hB1⟩, rfl⟩
      refine l_heap (H' := G2 ++ (G' ++ (D1 ++ D))) (fun _ h => by rw [List.append_assoc] at h; exact St.fl [G', D1, G2, D] [2, 0, 1, 3] rfl h) ?_
      refine l_sure false rfl rfl rfl rfl ?_
      refine l_l rfl rfl rfl ?_
      refine l_l rfl rfl rfl ?_
      refine l_l rfl rfl rfl ?_
      refine l_as (v := (.int .u64 ((k : Nat) : Int))) rfl rfl rfl (congrArg _ (wrap_u64_id (by omega) (by omega))) ?_
      refine l_x (x_callF (A := G2) (G := G' ++ (D1 ++ D)) _ call_16 rfl (fun _ hb => mem_fst hb) (fun w hw => radd_ok bR _ (cap_ok n) lack ws hJ.pj.rise2 (by have := hJ.pj.tw.len; omega) k (by omega) none 0 [] (by simp) G2 w hJ.pj.ref (St.lend hw) (.inl ⟨rfl, rfl⟩) (fun _ => rfl) (by rw [← hJ.pj.tw.err]; exact herr))) rfl rfl ?_
      rintro _ _ ⟨_, ⟨rfl, mk', G2', D2, e2, f2, g2, rfl, hL2', hB2⟩, rfl⟩
      have hJ' := hJ.step (by omega) (cap_ok n).1 e1 e2 f1 f2 g1 g2 hL' hL2' hB1 hB2
      refine l_sure false rfl rfl rfl rfl ?_
      refine l_l rfl rfl rfl ?_
      refine l_nil ?_
      refine c_false rfl ?_
      refine c_skip ?_
      refine c_region ?_
      refine l_l rfl rfl rfl ?_
      refine l_l rfl rfl rfl ?_
      refine l_nil ?_
      exact ⟨⟨k + 1, t, _, _, _, G', G2', D2 ++ (D1 ++ D)⟩, ⟨by (try simp only [decide_eq_true_eq, decide_eq_false_iff_not, beq_iff_eq, beq_eq_false_iff_ne, bne_iff_ne, bne_eq_false_iff_eq, ne_eq] at *); omega, hJ'⟩, by (try simp only [decide_eq_true_eq, decide_eq_false_iff_not, beq_iff_eq, beq_eq_false_iff_ne, bne_iff_ne, bne_eq_false_iff_eq, ne_eq] at *); omega, .cons (congrArg _ (succ_law (by omega))) .nil, (by repeat (first | exact Agree.refl _ _ | exact Agree.mix rfl | refine Agree.put rfl ?_ | refine Agree.keep rfl ?_)), fun _ h => by rw [List.append_assoc] at h; exact St.fl [G2', D2, G', D1, D] [2, 0, 1, 3, 4] rfl h⟩
    · refine c_exit rfl ?_
      refine c_seq ?_
      refine c_region ?_
      refine l_l rfl rfl rfl ?_
      refine l_nil ?_
      refine c_seq ?_
      refine c_seq ?_
      refine c_region ?_
      refine l_l rfl rfl rfl ?_
      refine l_as (v := (.int .i64 ((N + 2 : Nat) : Int))) rfl rfl rfl (congrArg _ (by rw [wrap_i64 (by omega) (by omega)]; omega)) ?_
      refine l_l rfl rfl rfl ?_
      refine l_nil ?_
      refine c_block ?_
      refine c_loopk (σ := Nat × Nat) [9, 10, 43, 44, 45, 46, 47, 48] (fun s => [(9, .int .i64 s.1), (10, .int .i64 s.2)]) (fun s => s.1 + blen s.2 = blen (N + 2) ∧ s.2 ≤ N + 2) (fun s => s.2) (0, N + 2) ?_ ?_ ?_
      · exact ⟨Nat.zero_add _, Nat.le_refl _⟩
      · exact .cons rfl (.cons rfl .nil)
      · rintro ⟨bits, hi⟩ y13 ⟨hs, hhi⟩
        simp only at hs hhi ⊢
        have hbl := blen_le (N + 2)
        refine c_seq ?_
        refine c_seq ?_
        refine c_region ?_
        refine l_l rfl rfl rfl ?_
        refine l_l rfl rfl rfl ?_
        refine l_nil ?_
        refine c_cond rfl (fun h2 => ?_) (fun h2 => ?_)
        · refine c_skip ?_
          refine c_seq ?_
          refine c_block ?_
          refine c_region ?_
          refine l_l rfl rfl rfl ?_
          refine l_l rfl rfl rfl ?_
          refine l_l rfl rfl rfl ?_
          refine l_nil ?_
          refine c_region ?_
          refine l_l rfl rfl rfl ?_
          refine l_as (v := (.int .i64 ((hi / 2 : Nat) : Int))) (quo_pos rfl rfl (by decide)) rfl rfl (congrArg _ (by rw [Int.tdiv_eq_ediv_of_nonneg (by omega), wrap_i64 (by omega) (by omega)]; omega)) ?_
          refine l_l rfl rfl rfl ?_
          refine l_nil ?_
          exact ⟨(bits + 1, hi / 2), ⟨by have := blen_pos (k := hi) (by (try simp only [decide_eq_true_eq, decide_eq_false_iff_not, beq_iff_eq, beq_eq_false_iff_ne, bne_iff_ne, bne_eq_false_iff_eq, ne_eq] at *); omega); dsimp only; omega, by dsimp only; omega⟩, by dsimp only; (try simp only [decide_eq_true_eq, decide_eq_false_iff_not, beq_iff_eq, beq_eq_false_iff_ne, bne_iff_ne, bne_eq_false_iff_eq, ne_eq] at *); omega, .cons (congrArg _ (succ_law (by omega))) (.cons rfl .nil), (by repeat (first | exact Agree.refl _ _ | exact Agree.mix rfl | refine Agree.put rfl ?_ | refine Agree.keep rfl ?_)), fun _ h => h⟩
        · refine c_exit rfl ?_
          refine c_seq ?_
          refine c_seq ?_
          obtain rfl : k = N + 1 := by (try simp only [decide_eq_true_eq, decide_eq_false_iff_not, beq_iff_eq, beq_eq_false_iff_ne, bne_iff_ne, bne_eq_false_iff_eq, ne_eq] at *); omega
          have hml := hJ.pj.len
          have hmf := hJ.few
          have hbl := blen_le (N + 2)
          obtain rfl : hi = 0 := by (try simp only [decide_eq_true_eq, decide_eq_false_iff_not, beq_iff_eq, beq_eq_false_iff_ne, bne_iff_ne, bne_eq_false_iff_eq, ne_eq] at *); omega
          have hs : bits = blen (N + 2) := by rw [blen_zero] at hs; exact hs
          refine c_region ?_
          refine l_l rfl rfl rfl ?_
          refine l_x (x_call call_14 rfl (fun w hw => marks_fn bl _ ms (by omega) w (hJ.pj.line.lineW hw (fun x hx => by simp only [List.mem_append, List.mem_cons]; simp only [hx, true_or, or_true])))) rfl rfl ?_
          rintro v50 _ ⟨G50, hV50, rfl⟩
          obtain ⟨a50, c50, rfl⟩ := hV50.slice
          refine l_l (by first | exact light_len rfl rfl | exact light_lens rfl rfl | rfl) rfl rfl ?_
          refine l_l rfl rfl rfl ?_
          refine l_as (v := (.int .i64 ((2 * bits : Nat) : Int))) rfl rfl rfl (congrArg _ (by rw [wrap_i64 (by omega) (by omega)]; omega)) ?_
          refine l_as (v := (.int .i64 ((4 + 2 * bits : Nat) : Int))) rfl rfl rfl (congrArg _ (by rw [wrap_i64 (by omega) (by omega)]; omega)) ?_
          refine l_sure false rfl rfl rfl (by simp only [decide_eq_false_iff_not]; omega) ?_
          refine l_nil ?_
          refine c_false rfl ?_
          refine c_skip ?_
          refine c_seq ?_
          refine c_seq ?_
          refine c_region ?_
          refine l_l rfl rfl rfl ?_
          refine l_as (v := (.int .i64 ((N + 1 : Nat) : Int))) rfl rfl rfl (congrArg _ (succ_law (by omega))) ?_
          refine l_l rfl rfl rfl ?_
          refine l_nil ?_
          refine c_block ?_
          refine c_loopk (σ := Nat) [4, 11, 12, 13, 58, 59, 60, 61, 62, 63, 64, 65, 66, 67, 68, 69, 70, 71, 72, 73, 74, 75, 76, 77, 78, 79, 80, 81, 82, 83, 84, 85, 86, 87, 88, 89, 90, 91, 92] (fun k => [(58, .int .i64 k)]) (fun k => k ≤ N + 1) (fun k => N + 1 - k) 0 ?_ ?_ ?_
          · exact Nat.zero_le _
          · exact .cons rfl .nil
          · intro kk y19 hkk
            refine c_seq ?_
            refine c_region ?_
            refine l_l rfl rfl rfl ?_
            refine l_nil ?_
            refine c_seq ?_
            refine c_cond rfl (fun h3 => ?_) (fun h3 => ?_)
            · refine c_skip ?_
              refine c_seq ?_
              refine c_block ?_
              refine c_seq ?_
              refine c_region ?_
              refine l_l rfl rfl rfl ?_
              refine l_l rfl rfl rfl ?_
              refine l_nil ?_
              refine c_seq ?_
              refine c_region ?_
              refine l_l rfl rfl rfl ?_
              refine l_l rfl rfl rfl ?_
              refine l_as (v := (.int .u64 ((kk : Nat) : Int))) rfl rfl rfl (congrArg _ (wrap_u64_id (by omega) (by omega))) ?_
              refine l_x (x_val call_18 rfl (fun w hw => cost_fn bl _ ms hJ.pj.rise (by omega) kk (by omega) w (hJ.pj.line.lineW hw (fun x hx => by simp only [List.mem_append, List.mem_cons]; simp only [hx, true_or, or_true])))) rfl rfl ?_
              rintro _ _ ⟨rfl, rfl⟩
              obtain ⟨hc1, hc2, hc3⟩ := hJ.cost (k := kk) (by (try simp only [decide_eq_true_eq, decide_eq_false_iff_not, beq_iff_eq, beq_eq_false_iff_ne, bne_iff_ne, bne_eq_false_iff_eq, ne_eq] at *); omega)
              refine l_l rfl rfl rfl ?_
              refine l_l rfl rfl rfl ?_
              refine l_l rfl rfl rfl ?_
              refine l_l rfl rfl rfl ?_
              refine l_l rfl rfl rfl ?_
              refine l_nil ?_
              refine c_seq ?_
              refine c_region ?_
              refine l_l rfl rfl rfl ?_
              refine l_sure false rfl rfl rfl (by rw [decide_eq_true (hJ.bef0 kk)]; rfl) ?_
              refine l_l rfl rfl rfl ?_
              refine l_l rfl rfl rfl ?_
              refine l_l rfl rfl rfl ?_
              refine l_l (light_fa rfl rfl) rfl rfl ?_
              refine l_x (x_load rfl rfl (fun w hw => (hJ.pj.ref.lineW hw (fun x hx => by simp only [List.mem_append, List.mem_cons]; simp only [hx, true_or, or_true])).lack)) rfl rfl ?_
              rintro _ _ ⟨rfl, rfl⟩
              refine l_l rfl rfl rfl ?_
              refine l_b rfl rfl rfl (fun h4 => ?_) (fun h4 => ?_)
              · refine l_l rfl rfl rfl ?_
                refine l_l rfl rfl rfl ?_
                refine l_l rfl rfl rfl ?_
                refine l_as (v := (.int .i64 ((N : Int) - kk))) rfl rfl rfl (congrArg _ (wrap_i64 (by omega) (by omega))) ?_
                refine l_l (light_max rfl rfl) rfl rfl ?_
                refine l_as (v := (.int .u64 (max 1 ((N : Int) - kk)))) rfl rfl rfl (congrArg _ (wrap_u64_id (by omega) (by omega))) ?_
                refine l_sure false rfl rfl rfl (by simp only [decide_eq_false_iff_not]; have := hc3 (by simpa using h4); omega) ?_
                refine l_l rfl rfl rfl ?_
                refine l_l rfl rfl rfl ?_
                refine l_l rfl rfl rfl ?_
                refine l_l rfl rfl rfl ?_
                refine l_l rfl rfl rfl ?_
                refine l_as (v := (.int .u64 ((kk : Nat) : Int))) rfl rfl rfl (congrArg _ (wrap_u64_id (by omega) (by omega))) ?_
                refine l_sure false rfl rfl rfl (by simp only [decide_eq_false_iff_not]; omega) ?_
                refine l_l rfl rfl rfl ?_
                refine l_nil ?_
                refine c_false rfl ?_
                refine c_skip ?_
                refine c_region ?_
                refine l_l rfl rfl rfl ?_
                refine l_l rfl rfl rfl ?_
                refine l_nil ?_
                exact ⟨kk + 1, by (try simp only [decide_eq_true_eq, decide_eq_false_iff_not, beq_iff_eq, beq_eq_false_iff_ne, bne_iff_ne, bne_eq_false_iff_eq, ne_eq] at *); omega, by (try simp only [decide_eq_true_eq, decide_eq_false_iff_not, beq_iff_eq, beq_eq_false_iff_ne, bne_iff_ne, bne_eq_false_iff_eq, ne_eq] at *); omega, .cons (congrArg _ (succ_law (by omega))) .nil, (by repeat (first | exact Agree.refl _ _ | exact Agree.mix rfl | refine Agree.put rfl ?_ | refine Agree.keep rfl ?_)), fun _ h => h⟩
              · refine l_p rfl rfl ?_
                refine l_p rfl rfl ?_
                refine l_p rfl rfl ?_
                refine l_p rfl rfl ?_
                refine l_p rfl rfl ?_
                refine l_p rfl rfl ?_
                refine l_p rfl rfl ?_
                refine l_l rfl rfl rfl ?_
                refine l_l rfl rfl rfl ?_
                refine l_l rfl rfl rfl ?_
                refine l_l rfl rfl rfl ?_
                refine l_l rfl rfl rfl ?_
                refine l_as (v := (.int .u64 ((kk : Nat) : Int))) rfl rfl rfl (congrArg _ (wrap_u64_id (by omega) (by omega))) ?_
                refine l_sure false rfl rfl rfl (by simp only [decide_eq_false_iff_not]; omega) ?_
                refine l_l rfl rfl rfl ?_
                refine l_nil ?_
                refine c_false rfl ?_
                refine c_skip ?_
                refine c_region ?_
                refine l_l rfl rfl rfl ?_
                refine l_l rfl rfl rfl ?_
                refine l_nil ?_
                exact ⟨kk + 1, by (try simp only [decide_eq_true_eq, decide_eq_false_iff_not, beq_iff_eq, beq_eq_false_iff_ne, bne_iff_ne, bne_eq_false_iff_eq, ne_eq] at *); omega, by (try simp only [decide_eq_true_eq, decide_eq_false_iff_not, beq_iff_eq, beq_eq_false_iff_ne, bne_iff_ne, bne_eq_false_iff_eq, ne_eq] at *); omega, .cons (congrArg _ (succ_law (by omega))) .nil, (by repeat (first | exact Agree.refl _ _ | exact Agree.mix rfl | refine Agree.put rfl ?_ | refine Agree.keep rfl ?_)), fun _ h => h⟩
            · refine c_exit rfl ?_
              refine c_seq ?_
              refine c_region ?_
              refine l_l rfl rfl rfl ?_
              refine l_nil ?_
              refine c_ret ?_
              exact l_end0 (fun _ _ => rets_v rfl) ⟨rfl, rfl⟩

end Go.Proofs.Ytkifhldkhemdlaa
