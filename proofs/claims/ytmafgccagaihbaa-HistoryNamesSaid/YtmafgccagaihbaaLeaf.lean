/- The contracts of the small functions of history. -/
import Derived.Test.YtmafgccagaihbaaHist
import Derived.Test.YtmafgccagaihbaaProg
import Derived.Test.YtmafgccagaihbaaCalls
namespace Go.Proofs.Ytmafgccagaihbaa
open Go Go.VV Go.Proofs
set_option linter.unusedSimpArgs false
set_option linter.unusedVariables false
set_option maxRecDepth 100000
theorem new_fn (n : Int) (w : World) :
    Does Try.prog 10 [.int .i64 n] w [] (fun v H => ∃ b, v = .pointer (some ⟨b, 0, none⟩) ∧ HistH b (max 1 (min n 32)).toNat 0 [] (List.replicate 32 r0) H) := by
  refine does_of Try.func10 rfl rfl rfl (St.refl w) ?_
  refine c_seq ?_
  refine c_region ?_
  refine l_l rfl rfl rfl ?_
  refine l_nil ?_
  refine c_seq ?_
  refine c_region ?_
  refine l_l rfl rfl rfl ?_
  refine l_l (light_min rfl rfl) rfl rfl ?_
  refine l_l (light_max rfl rfl) rfl rfl ?_
  refine l_l (light_struct (z := hC (.slice none 0 0) (List.replicate 32 r0) 0 0) (l := hC (.slice none 0 0) (List.replicate 32 r0) (max 1 (min n 32)) 0) rfl (by kernel_rfl) rfl (by kernel_rfl)) rfl rfl ?_
  refine l_x (x_box rfl rfl) rfl rfl ?_
  rintro _ _ ⟨b7, rfl, rfl⟩
  refine l_l rfl rfl rfl ?_
  refine l_nil ?_
  refine c_ret ?_
  exact l_end (fun _ _ => rets_v rfl) (List.Sublist.refl _) ⟨_, rfl, _, [], by rw [Int.toNat_of_nonneg (by omega)]; rfl, .nil, by simp⟩

theorem delete_fn (b c j : Nat) (cs : List Cll) (sp : List Value) (hlen : cs.length < 1000000000) (hc : cs.length ≤ c) (hsz : (flat cC cs ++ sp).length = c * 5) (h2 : 1 ≤ j) (hj : j ≤ cs.length) (w : World) (hb : w.heap[b]? = some (blk (flat cC cs ++ sp) 35)) :
    Does Try.prog 31 [.slice (some ⟨b, 0, none⟩) cs.length c, .int .i64 0, .int .i64 j] w [b] (fun v H => v = .slice (some ⟨b, 0, none⟩) (cs.drop j).length c ∧ ∃ sp', (flat cC (cs.drop j) ++ sp').length = c * 5 ∧ H = [(b, blk (flat cC (cs.drop j) ++ sp') 35)]) := by
  refine does_of Try.func31 rfl rfl rfl (St.lent1 hb) ?_
  refine c_seq ?_
  refine c_region ?_
  refine l_l rfl rfl rfl ?_
  refine l_nil ?_
  refine c_seq ?_
  refine c_region ?_
  refine l_l rfl rfl rfl ?_
  refine l_l rfl rfl rfl ?_
  refine l_l rfl rfl rfl ?_
  refine l_l rfl rfl rfl ?_
  refine l_l (by first | exact light_len rfl rfl | exact light_lens rfl rfl | rfl) rfl rfl ?_
  refine l_l (cut3_slice (s := 5) 0 j cs.length rfl rfl rfl rfl rfl rfl rfl rfl (by omega) hj hc) rfl rfl ?_
  refine l_nil ?_
  refine c_seq ?_
  refine c_seq ?_
  refine c_region ?_
  refine l_l rfl rfl rfl ?_
  refine l_l rfl rfl rfl ?_
  refine l_sure false rfl rfl rfl (by simp; omega) ?_
  refine l_nil ?_
  refine c_false rfl ?_
  refine c_skip ?_
  refine c_seq ?_
  refine c_region ?_
  refine l_l rfl rfl rfl ?_
  refine l_l (by first | exact light_len rfl rfl | exact light_lens rfl rfl | rfl) rfl rfl ?_
  refine l_l rfl rfl rfl ?_
  refine l_nil ?_
  refine c_seq ?_
  refine c_draw _ [] (.step true 0 (.step true 1 (.step true 2 (.step true 3 (.step true 4 (.step true 5 (.step false 6 (.step true 7 .done)))))))) rfl (by kernel_rfl) (by kernel_rfl) (fun _ h => h) ?_
  refine d_light rfl rfl rfl rfl rfl ?_
  refine d_light rfl rfl rfl rfl rfl ?_
  refine d_as (v := (.slice (some ⟨b, 0, none⟩) 0 c)) rfl (cut_slice (s := 5) 0 0 rfl rfl rfl rfl rfl rfl (by omega) (by omega)) rfl rfl rfl (cutz b 0 5 0 c) ?_
  refine d_light rfl rfl rfl rfl rfl ?_
  refine d_light rfl rfl rfl rfl rfl ?_
  refine d_light rfl (cut_slice (s := 5) j cs.length rfl rfl rfl rfl rfl rfl hj hc) rfl rfl rfl ?_
  refine d_x rfl (x_appendR (n := 0) (m := cs.length - j) (T := 35) (s := 5) (by_ := 24) (ys := flat cC (cs.drop j)) 0 rfl rfl rfl rfl rfl (fun w hw => .row _ _ _ _ _ (by rw [flat_len cC_len, List.length_drop]) (row_dropE cC_len (row_own (.head _) w hw) hj hc)) (ones_flat_of ones_C _) (by omega) (del0_fits cC_len cs sp j)) rfl rfl (by intro h; cases h) ?_
  rintro _ _ ⟨rfl, rfl⟩
  refine d_light rfl rfl rfl rfl rfl ?_
  refine d_nil ?_
  refine c_seq ?_
  refine c_region ?_
  refine l_l rfl rfl rfl ?_
  refine l_l rfl rfl rfl ?_
  refine l_l (by first | exact light_len rfl rfl | exact light_lens rfl rfl | rfl) rfl rfl ?_
  refine l_l rfl rfl rfl ?_
  refine l_as (v := (.slice (some ⟨b, (cs.length - j) * 5, none⟩) j (c - (cs.length - j)))) (cut_slice (s := 5) (cs.length - j) cs.length rfl rfl rfl rfl (by simp) rfl (by omega) hc) rfl rfl (cut_onE (by omega) (by omega)) ?_
  refine l_x (x_clear (s := 5) (z := [.int .i64 0, .int .i64 0, .int .u16 0, .int .u16 0, .int .u16 0]) 0 rfl rfl rfl rfl rfl rfl rfl (by omega) (by rw [putL_len (del0_fits cC_len cs sp j), hsz]; simp only [List.length_cons, List.length_nil]; omega)) rfl rfl ?_
  rintro _ _ ⟨rfl, rfl⟩
  refine l_nil ?_
  refine c_seq ?_
  refine c_region ?_
  refine l_l rfl rfl rfl ?_
  refine l_l rfl rfl rfl ?_
  refine l_nil ?_
  refine c_ret ?_
  obtain ⟨sp', hsp⟩ := del0_law cC_len cs sp (repL (j * 5) [.int .i64 0, .int .i64 0, .int .u16 0, .int .u16 0, .int .u16 0]) hj
  refine l_end (fun _ _ => rets_v rfl) (List.Sublist.refl _) ⟨by rw [List.length_drop, Nat.zero_add], sp', ?_, by rw [← hsp]; rfl⟩
  rw [← hsp, putL_len (by rw [putL_len (del0_fits cC_len cs sp j), hsz, repL_len]; omega), putL_len (del0_fits cC_len cs sp j), hsz]

theorem lay_fn (b keep noted : Nat) (cs : List Cll) (ring : List Rcd) (hcl : cs.length ≤ 256) (G : Heap) (w : World) (hL : HistH b keep noted cs ring G) (hst : St w (G.map (·.1)) G w) (x : Cll) :
    Does Try.prog 24 [.pointer (some ⟨b, 0, none⟩), .agg (cC x).toArray] w (G.map (·.1)) (fun v H => v = .tuple #[] ∧ HistH b keep noted (layC cs x) ring H) := by
  obtain ⟨v, GV, rfl, hV, hr⟩ := hL
  obtain ⟨a, c, rfl⟩ := hV.slice
  refine does_of Try.func24 rfl rfl rfl hst ?_
  refine c_seq ?_
  refine c_region ?_
  refine l_x (x_box rfl rfl) rfl rfl ?_
  rintro _ _ ⟨b3, rfl, rfl⟩
  refine l_nil ?_
  refine c_seq ?_
  refine c_draw _ [5, 6] (.step true 0 (.step true 1 (.step true 2 (.step true 3 (.step true 4 (.step true 5 (.step false 6 (.step false 7 (.step true 8 (.step true 9 (.step false 10 .done))))))))))) rfl (by kernel_rfl) (by kernel_rfl) (fun _ h => h) ?_
  refine d_light rfl rfl rfl rfl rfl ?_
  refine d_light rfl rfl rfl rfl rfl ?_
  refine d_light rfl rfl rfl rfl rfl ?_
  refine d_light rfl (light_fa rfl rfl) rfl rfl rfl ?_
  refine d_load rfl rfl rfl (s_own (by repeat (first | exact .head _ | refine .tail _ ?_ | refine List.mem_append_right _ ?_)) (by rfl)) rfl rfl ?_
  refine d_loadA rfl rfl rfl rfl (by first | exact srow_own (by repeat (first | exact .head _ | refine .tail _ ?_ | refine List.mem_append_right _ ?_)) | exact srow_own_at (by repeat (first | exact .head _ | refine .tail _ ?_ | refine List.mem_append_right _ ?_)) _ 5 rfl) rfl rfl ?_
  refine d_x rfl (x_slc rfl rfl rfl rfl rfl rfl) rfl rfl (by intro _ _ _ hK x hx; obtain ⟨_, rfl, rfl⟩ := hK; repeat (first | exact hx | exact List.mem_append_left _ hx | refine List.mem_append_right _ ?_ | refine .tail _ ?_)) ?_
  rintro _ _ ⟨b11, rfl, rfl⟩
  refine d_heap (H' := [(b11, blk (cC x) 35), (b3, blk (cC x) 35), (b, _)] ++ GV) (fun _ h => h) ?_
  refine d_x rfl (x_appendE (A := [(b11, blk (cC x) 35), (b3, blk (cC x) 35), (b, _)]) (G := GV) (n := cs.length) (m := 1) (T := 35) (s := 5) (by_ := 24) (ys := cC x) rfl rfl rfl rfl hV (fun w hw => .row _ _ _ _ _ rfl (row_own (.head _) w hw)) rfl (by omega) (by omega)) rfl rfl (by intro h; cases h) ?_
  rintro v12 _ ⟨G12, hV12, hn12, rfl⟩
  refine d_heap (H' := (b, _) :: G12) (fun _ h => St.fl [G12, [_], [_], [_]] [3, 0] rfl h) ?_
  rw [← flat_snoc] at hV12
  have hl12 : cs.length + 1 = (cs ++ [x]).length := by simp
  rw [hl12] at hV12
  obtain ⟨bc, cc, sc, rfl, rfl, hz, hlc, hxc⟩ := hV12.full (by simp)
  refine d_light rfl rfl rfl rfl rfl ?_
  refine d_light rfl (light_fa rfl rfl) rfl rfl rfl ?_
  refine d_x rfl (x_store 0 rfl rfl rfl rfl rfl rfl (by rw [hC_len hr]; simp)) rfl rfl (by intro h; cases h) ?_
  rintro _ _ ⟨rfl, rfl⟩
  simp only [List.set_cons_zero]
  rw [hC_setv]
  refine d_nil ?_
  refine c_seq ?_
  refine c_region ?_
  refine l_l rfl rfl rfl ?_
  refine l_l rfl rfl rfl ?_
  refine l_l (light_fa rfl rfl) rfl rfl ?_
  refine l_x (x_load rfl rfl (at_own (by repeat (first | exact .head _ | refine .tail _ ?_ | refine List.mem_append_right _ ?_)) (by rfl))) rfl rfl ?_
  rintro _ _ ⟨rfl, rfl⟩
  refine l_l (by first | exact light_len rfl rfl | exact light_lens rfl rfl | rfl) rfl rfl ?_
  refine l_as (v := (.int .i64 (((cs ++ [x]).length : Int) - 256))) rfl rfl rfl (congrArg _ (wrap_i64 (by omega) (by omega))) ?_
  refine l_l rfl rfl rfl ?_
  refine l_nil ?_
  refine c_seq ?_
  refine c_region ?_
  refine l_l rfl rfl rfl ?_
  refine l_l rfl rfl rfl ?_
  refine l_nil ?_
  refine c_cond rfl (fun h1 => ?_) (fun h1 => ?_)
  · refine c_region ?_
    refine l_l rfl rfl rfl ?_
    refine l_l rfl rfl rfl ?_
    refine l_l rfl rfl rfl ?_
    refine l_l (light_fa rfl rfl) rfl rfl ?_
    refine l_x (x_load rfl rfl (at_own (by repeat (first | exact .head _ | refine .tail _ ?_ | refine List.mem_append_right _ ?_)) (by rfl))) rfl rfl ?_
    rintro _ _ ⟨rfl, rfl⟩
    refine l_as (v := (.int .i64 ((1 : Nat) : Int))) rfl rfl rfl (congrArg _ (by rw [List.length_append, List.length_singleton] at *; (try simp only [decide_eq_true_eq, decide_eq_false_iff_not, beq_iff_eq, beq_eq_false_iff_ne, bne_iff_ne, bne_eq_false_iff_eq, ne_eq] at *); omega)) ?_
    refine l_heap (H' := [(bc, _)] ++ [(b, _)]) (fun _ h => St.fl [[_], [_]] [1, 0] rfl h) ?_
    refine l_x (x_callF (A := [(bc, _)]) (G := [(b, _)]) [bc] call_31 rfl (by simp) (fun w hw => delete_fn bc cc 1 (cs ++ [x]) sc (by omega) hlc hz (by omega) (by simp) w (hw.holds _ (.head _)))) rfl rfl ?_
    rintro _ _ ⟨_, ⟨rfl, sp9, hz9, rfl⟩, rfl⟩
    refine l_l rfl rfl rfl ?_
    refine l_l (light_fa rfl rfl) rfl rfl ?_
    refine l_x (x_store 1 rfl rfl rfl rfl rfl rfl (by rw [hC_len hr]; simp)) rfl rfl ?_
    rintro _ _ ⟨rfl, rfl⟩
    try simp only [List.set_cons_zero, List.set_cons_succ]
    rw [hC_setv]
    refine l_nil ?_
    exact ends_of (fun _ _ => rets_none) (fun _ h => St.fl [[_], [_]] [1, 0] rfl h) ⟨rfl, _, [_], rfl, by rw [lay_yes (by omega) (by (try simp only [decide_eq_true_eq, decide_eq_false_iff_not, beq_iff_eq, beq_eq_false_iff_ne, bne_iff_ne, bne_eq_false_iff_eq, ne_eq] at *); omega)]; exact Vec.all_ cC_len hz9 (by rw [List.length_drop]; omega) hxc, hr⟩
  · refine c_skip ?_
    exact l_end (fun _ _ => rets_none) (List.Sublist.refl _) ⟨rfl, _, [_], rfl, by rw [lay_no (by (try simp only [decide_eq_true_eq, decide_eq_false_iff_not, beq_iff_eq, beq_eq_false_iff_ne, bne_iff_ne, bne_eq_false_iff_eq, ne_eq] at *); omega)]; exact Vec.all_ cC_len hz hlc hxc, hr⟩

theorem order_fn (b keep noted : Nat) (cs : List Cll) (ring : List Rcd) (hcl : cs.length ≤ 256) (G : Heap) (w : World) (hL : HistH b keep noted cs ring G) (hst : St w (G.map (·.1)) G w) (s : Stp) (hs : StpOk s) :
    Does Try.prog 25 [.pointer (some ⟨b, 0, none⟩), .int .i64 s.bank, .agg (cD s).toArray, .int .u16 s.to] w (G.map (·.1)) (fun v H => v = .tuple #[] ∧ HistH b keep noted (orderC cs s) ring H) := by
  obtain ⟨v, GV, rfl, hV, hr⟩ := hL
  obtain ⟨a, c, rfl⟩ := hV.slice
  refine does_of Try.func25 rfl rfl rfl hst ?_
  refine c_seq ?_
  refine c_region ?_
  refine l_x (x_box rfl rfl) rfl rfl ?_
  rintro _ _ ⟨b6, rfl, rfl⟩
  refine l_nil ?_
  refine c_seq ?_
  refine c_region ?_
  refine l_l rfl rfl rfl ?_
  refine l_l (light_fa rfl rfl) rfl rfl ?_
  refine l_x (x_load rfl rfl (at_own (by repeat (first | exact .head _ | refine .tail _ ?_ | refine List.mem_append_right _ ?_)) (by rfl))) rfl rfl ?_
  rintro _ _ ⟨rfl, rfl⟩
  refine l_l rfl rfl rfl ?_
  refine l_l (light_fa rfl rfl) rfl rfl ?_
  refine l_x (x_load rfl rfl (at_own (by repeat (first | exact .head _ | refine .tail _ ?_ | refine List.mem_append_right _ ?_)) (by rfl))) rfl rfl ?_
  rintro _ _ ⟨rfl, rfl⟩
  refine l_l (light_fa rfl rfl) rfl rfl ?_
  refine l_l (light_fa rfl rfl) rfl rfl ?_
  refine l_x (x_load rfl rfl (at_own (by repeat (first | exact .head _ | refine .tail _ ?_ | refine List.mem_append_right _ ?_)) (by rfl))) rfl rfl ?_
  rintro _ _ ⟨rfl, rfl⟩
  refine l_l rfl rfl rfl ?_
  refine l_as (v := (.int .u16 (backOf s))) rfl rfl rfl (congrArg _ (back_law hs)) ?_
  refine l_l (light_struct rfl rfl rfl rfl) rfl rfl ?_
  refine l_x (x_alloc rfl) rfl rfl ?_
  rintro _ _ ⟨b8, rfl, rfl⟩
  refine l_x (by first | exact x_store 0 rfl rfl rfl rfl rfl rfl (by first | rfl | exact Nat.le_of_ble_eq_true rfl | (simp; done)) | exact x_store 1 rfl rfl rfl rfl rfl rfl (by first | rfl | exact Nat.le_of_ble_eq_true rfl | (simp; done)) | exact x_store 2 rfl rfl rfl rfl rfl rfl (by first | rfl | exact Nat.le_of_ble_eq_true rfl | (simp; done)) | exact x_store 3 rfl rfl rfl rfl rfl rfl (by first | rfl | exact Nat.le_of_ble_eq_true rfl | (simp; done))) rfl rfl ?_
  rintro _ _ ⟨rfl, rfl⟩
  refine l_nil ?_
  refine c_seq ?_
  refine c_region ?_
  refine l_l (light_fa rfl rfl) rfl rfl ?_
  refine l_l (light_fa rfl rfl) rfl rfl ?_
  refine l_x (x_load rfl rfl (at_own (by repeat (first | exact .head _ | refine .tail _ ?_ | refine List.mem_append_right _ ?_)) (by rfl))) rfl rfl ?_
  rintro _ _ ⟨rfl, rfl⟩
  refine l_nil ?_
  refine c_block ?_
  refine c_seq ?_
  refine c_block ?_
  refine c_seq ?_
  refine c_block ?_
  refine c_seq ?_
  refine c_block ?_
  refine c_seq ?_
  refine c_block ?_
  refine c_seq ?_
  refine c_seq ?_
  refine c_seq ?_
  refine c_region ?_
  refine l_l rfl rfl rfl ?_
  refine l_l rfl rfl rfl ?_
  refine l_nil ?_
  refine c_cond rfl (fun h1 => ?_) (fun h1 => ?_)
  · refine c_exit rfl ?_
    refine c_seq ?_
    refine c_seq ?_
    refine c_region ?_
    refine l_l (light_fa rfl rfl) rfl rfl ?_
    refine l_x (by first | exact x_store 0 rfl rfl rfl rfl rfl rfl (by first | rfl | exact Nat.le_of_ble_eq_true rfl | (simp; done)) | exact x_store 1 rfl rfl rfl rfl rfl rfl (by first | rfl | exact Nat.le_of_ble_eq_true rfl | (simp; done)) | exact x_store 2 rfl rfl rfl rfl rfl rfl (by first | rfl | exact Nat.le_of_ble_eq_true rfl | (simp; done)) | exact x_store 3 rfl rfl rfl rfl rfl rfl (by first | rfl | exact Nat.le_of_ble_eq_true rfl | (simp; done))) rfl rfl ?_
    rintro _ _ ⟨rfl, rfl⟩
    refine l_nil ?_
    refine c_seq ?_
    refine c_region ?_
    refine l_l (light_fa rfl rfl) rfl rfl ?_
    refine l_x (x_load rfl rfl (at_own (by repeat (first | exact .head _ | refine .tail _ ?_ | refine List.mem_append_right _ ?_)) (by rfl))) rfl rfl ?_
    rintro _ _ ⟨rfl, rfl⟩
    refine l_nil ?_
    refine c_cond rfl (fun h2 => ?_) (fun h2 => ?_)
    · refine c_region ?_
      refine l_l rfl rfl rfl ?_
      refine l_x (x_loadA rfl rfl rfl (by first | exact row_own (by repeat (first | exact .head _ | refine .tail _ ?_ | refine List.mem_append_right _ ?_)) | exact row_own_at (by repeat (first | exact .head _ | refine .tail _ ?_ | refine List.mem_append_right _ ?_)) _ 5 rfl)) rfl rfl ?_
      rintro _ _ ⟨rfl, rfl⟩
      refine l_heap (fun _ h => h.sub (.cons _ (.cons _ (List.Sublist.refl _)))) ?_
      refine l_x (x_callA call_24 rfl (fun w hw => lay_fn b keep noted cs ring hcl _ w ⟨_, _, rfl, hV, hr⟩ (St.lentA hw) ⟨1, s.bank, s.at_, s.to, backOf s⟩)) rfl rfl ?_
      rintro _ H9 ⟨rfl, hH9⟩
      refine l_nil ?_
      refine c_exit rfl ?_
      exact l_end (fun _ _ => rets_none) (List.Sublist.refl _) ⟨rfl, by rw [ord_25t (by (try simp only [decide_eq_true_eq, decide_eq_false_iff_not, beq_iff_eq, beq_eq_false_iff_ne, bne_iff_ne, bne_eq_false_iff_eq, ne_eq] at *); omega) (by (try simp only [decide_eq_true_eq, decide_eq_false_iff_not, beq_iff_eq, beq_eq_false_iff_ne, bne_iff_ne, bne_eq_false_iff_eq, ne_eq] at *); omega)]; exact hH9⟩
    · refine c_skip ?_
      refine c_exit rfl ?_
      exact ends_of (fun _ _ => rets_none) (fun _ h => h.sub (.cons _ (.cons _ (List.Sublist.refl _)))) ⟨rfl, by rw [ord_25f (by (try simp only [decide_eq_true_eq, decide_eq_false_iff_not, beq_iff_eq, beq_eq_false_iff_ne, bne_iff_ne, bne_eq_false_iff_eq, ne_eq] at *); omega) (by (try simp only [decide_eq_true_eq, decide_eq_false_iff_not, beq_iff_eq, beq_eq_false_iff_ne, bne_iff_ne, bne_eq_false_iff_eq, ne_eq] at *); omega)]; exact ⟨_, _, rfl, hV, hr⟩⟩
  · refine c_skip ?_
    refine c_seq ?_
    refine c_seq ?_
    refine c_region ?_
    refine l_l rfl rfl rfl ?_
    refine l_l rfl rfl rfl ?_
    refine l_nil ?_
    refine c_cond rfl (fun h3 => ?_) (fun h3 => ?_)
    · refine c_exit rfl ?_
      refine c_seq ?_
      refine c_seq ?_
      refine c_region ?_
      refine l_l (light_fa rfl rfl) rfl rfl ?_
      refine l_x (by first | exact x_store 0 rfl rfl rfl rfl rfl rfl (by first | rfl | exact Nat.le_of_ble_eq_true rfl | (simp; done)) | exact x_store 1 rfl rfl rfl rfl rfl rfl (by first | rfl | exact Nat.le_of_ble_eq_true rfl | (simp; done)) | exact x_store 2 rfl rfl rfl rfl rfl rfl (by first | rfl | exact Nat.le_of_ble_eq_true rfl | (simp; done)) | exact x_store 3 rfl rfl rfl rfl rfl rfl (by first | rfl | exact Nat.le_of_ble_eq_true rfl | (simp; done))) rfl rfl ?_
      rintro _ _ ⟨rfl, rfl⟩
      refine l_nil ?_
      refine c_region ?_
      refine l_l rfl rfl rfl ?_
      refine l_x (x_loadA rfl rfl rfl (by first | exact row_own (by repeat (first | exact .head _ | refine .tail _ ?_ | refine List.mem_append_right _ ?_)) | exact row_own_at (by repeat (first | exact .head _ | refine .tail _ ?_ | refine List.mem_append_right _ ?_)) _ 5 rfl)) rfl rfl ?_
      rintro _ _ ⟨rfl, rfl⟩
      refine l_heap (fun _ h => h.sub (.cons _ (.cons _ (List.Sublist.refl _)))) ?_
      refine l_x (x_callA call_24 rfl (fun w hw => lay_fn b keep noted cs ring hcl _ w ⟨_, _, rfl, hV, hr⟩ (St.lentA hw) ⟨2, s.bank, s.at_, s.to, backOf s⟩)) rfl rfl ?_
      rintro _ H9 ⟨rfl, hH9⟩
      refine l_nil ?_
      refine c_exit rfl ?_
      exact l_end (fun _ _ => rets_none) (List.Sublist.refl _) ⟨rfl, by rw [ord_28 (by (try simp only [decide_eq_true_eq, decide_eq_false_iff_not, beq_iff_eq, beq_eq_false_iff_ne, bne_iff_ne, bne_eq_false_iff_eq, ne_eq] at *); omega)]; exact hH9⟩
    · refine c_skip ?_
      refine c_seq ?_
      refine c_seq ?_
      refine c_region ?_
      refine l_l rfl rfl rfl ?_
      refine l_l rfl rfl rfl ?_
      refine l_nil ?_
      refine c_cond rfl (fun h4 => ?_) (fun h4 => ?_)
      · refine c_exit rfl ?_
        refine c_seq ?_
        refine c_region ?_
        refine l_l (light_fa rfl rfl) rfl rfl ?_
        refine l_x (x_load rfl rfl (at_own (by repeat (first | exact .head _ | refine .tail _ ?_ | refine List.mem_append_right _ ?_)) (by rfl))) rfl rfl ?_
        rintro _ _ ⟨rfl, rfl⟩
        refine l_l rfl rfl rfl ?_
        refine l_nil ?_
        refine c_cond rfl (fun h5 => ?_) (fun h5 => ?_)
        · refine c_ret ?_
          exact ends_of (fun _ _ => rets_none) (fun _ h => h.sub (.cons _ (.cons _ (List.Sublist.refl _)))) ⟨rfl, by rw [ord_26f (by (try simp only [decide_eq_true_eq, decide_eq_false_iff_not, beq_iff_eq, beq_eq_false_iff_ne, bne_iff_ne, bne_eq_false_iff_eq, ne_eq] at *); omega) (by cases ht : s.taken <;> simp_all)]; exact ⟨_, _, rfl, hV, hr⟩⟩
        · refine c_skip ?_
          refine c_seq ?_
          refine c_seq ?_
          refine c_region ?_
          refine l_l rfl rfl rfl ?_
          refine l_l rfl rfl rfl ?_
          refine l_l (light_fa rfl rfl) rfl rfl ?_
          refine l_x (x_load rfl rfl (at_own (by repeat (first | exact .head _ | refine .tail _ ?_ | refine List.mem_append_right _ ?_)) (by rfl))) rfl rfl ?_
          rintro _ _ ⟨rfl, rfl⟩
          refine l_l (by first | exact light_len rfl rfl | exact light_lens rfl rfl | rfl) rfl rfl ?_
          refine l_l rfl rfl rfl ?_
          refine l_nil ?_
          refine c_seq ?_
          refine c_region ?_
          refine l_l rfl rfl rfl ?_
          refine l_l rfl rfl rfl ?_
          refine l_nil ?_
          refine c_cond rfl (fun h6 => ?_) (fun h6 => ?_)
          · obtain ⟨bv, cv, sv, hv9, rfl, hzv, hlv, hxv⟩ := hV.full (by (try simp only [decide_eq_true_eq, decide_eq_false_iff_not, beq_iff_eq, beq_eq_false_iff_ne, bne_iff_ne, bne_eq_false_iff_eq, ne_eq] at *); omega)
            cases hv9
            refine c_region ?_
            refine l_l rfl rfl rfl ?_
            refine l_l rfl rfl rfl ?_
            refine l_l rfl rfl rfl ?_
            refine l_l (light_fa rfl rfl) rfl rfl ?_
            refine l_x (x_load rfl rfl (at_own (by repeat (first | exact .head _ | refine .tail _ ?_ | refine List.mem_append_right _ ?_)) (by rfl))) rfl rfl ?_
            rintro _ _ ⟨rfl, rfl⟩
            refine l_l rfl rfl rfl ?_
            refine l_as (v := (.int .i64 ((cs.length - 1 : Nat) : Int))) rfl rfl rfl (congrArg _ (by rw [wrap_i64 (by omega) (by omega)]; (try simp only [decide_eq_true_eq, decide_eq_false_iff_not, beq_iff_eq, beq_eq_false_iff_ne, bne_iff_ne, bne_eq_false_iff_eq, ne_eq] at *); omega)) ?_
            refine l_as (v := (.slice (some ⟨bv, 0, none⟩) cs.dropLast.length c)) (cut_slice (s := 5) 0 (cs.length - 1) rfl rfl rfl rfl rfl rfl (by omega) (by omega)) rfl rfl (by rw [List.length_dropLast]; exact cutz bv 0 5 _ c) ?_
            refine l_l rfl rfl rfl ?_
            refine l_l (light_fa rfl rfl) rfl rfl ?_
            refine l_x (x_store 2 rfl rfl rfl rfl rfl rfl (by rw [hC_len hr]; simp)) rfl rfl ?_
            rintro _ _ ⟨rfl, rfl⟩
            simp only [List.set_cons_zero, List.set_cons_succ]
            rw [hC_setv]
            refine l_nil ?_
            refine c_exit rfl ?_
            exact ends_of (fun _ _ => rets_none) (fun _ h => h.sub (.cons _ (.cons _ (List.Sublist.refl _)))) ⟨rfl, by rw [ord_26t (by (try simp only [decide_eq_true_eq, decide_eq_false_iff_not, beq_iff_eq, beq_eq_false_iff_ne, bne_iff_ne, bne_eq_false_iff_eq, ne_eq] at *); omega) (by cases ht : s.taken <;> simp_all)]; exact ⟨_, [_], rfl, pop_vec (by (try simp only [decide_eq_true_eq, decide_eq_false_iff_not, beq_iff_eq, beq_eq_false_iff_ne, bne_iff_ne, bne_eq_false_iff_eq, ne_eq] at *); omega) hzv hlv hxv, hr⟩⟩
          · refine c_skip ?_
            refine c_exit rfl ?_
            exact ends_of (fun _ _ => rets_none) (fun _ h => h.sub (.cons _ (.cons _ (List.Sublist.refl _)))) ⟨rfl, by rw [ord_26t (by (try simp only [decide_eq_true_eq, decide_eq_false_iff_not, beq_iff_eq, beq_eq_false_iff_ne, bne_iff_ne, bne_eq_false_iff_eq, ne_eq] at *); omega) (by cases ht : s.taken <;> simp_all), pop_zero (by (try simp only [decide_eq_true_eq, decide_eq_false_iff_not, beq_iff_eq, beq_eq_false_iff_ne, bne_iff_ne, bne_eq_false_iff_eq, ne_eq] at *); omega)]; exact ⟨_, _, rfl, hV, hr⟩⟩
      · refine c_skip ?_
        refine c_seq ?_
        refine c_region ?_
        refine l_l rfl rfl rfl ?_
        refine l_l rfl rfl rfl ?_
        refine l_nil ?_
        refine c_cond rfl (fun h7 => ?_) (fun h7 => ?_)
        · refine c_exit rfl ?_
          refine c_seq ?_
          refine c_seq ?_
          refine c_region ?_
          refine l_l rfl rfl rfl ?_
          refine l_l rfl rfl rfl ?_
          refine l_l (light_fa rfl rfl) rfl rfl ?_
          refine l_x (x_load rfl rfl (at_own (by repeat (first | exact .head _ | refine .tail _ ?_ | refine List.mem_append_right _ ?_)) (by rfl))) rfl rfl ?_
          rintro _ _ ⟨rfl, rfl⟩
          refine l_l (by first | exact light_len rfl rfl | exact light_lens rfl rfl | rfl) rfl rfl ?_
          refine l_l rfl rfl rfl ?_
          refine l_nil ?_
          refine c_seq ?_
          refine c_region ?_
          refine l_l rfl rfl rfl ?_
          refine l_l rfl rfl rfl ?_
          refine l_nil ?_
          refine c_cond rfl (fun h8 => ?_) (fun h8 => ?_)
          · obtain ⟨bv, cv, sv, hv9, rfl, hzv, hlv, hxv⟩ := hV.full (by (try simp only [decide_eq_true_eq, decide_eq_false_iff_not, beq_iff_eq, beq_eq_false_iff_ne, bne_iff_ne, bne_eq_false_iff_eq, ne_eq] at *); omega)
            cases hv9
            refine c_region ?_
            refine l_l rfl rfl rfl ?_
            refine l_l rfl rfl rfl ?_
            refine l_l rfl rfl rfl ?_
            refine l_l (light_fa rfl rfl) rfl rfl ?_
            refine l_x (x_load rfl rfl (at_own (by repeat (first | exact .head _ | refine .tail _ ?_ | refine List.mem_append_right _ ?_)) (by rfl))) rfl rfl ?_
            rintro _ _ ⟨rfl, rfl⟩
            refine l_l rfl rfl rfl ?_
            refine l_as (v := (.int .i64 ((cs.length - 1 : Nat) : Int))) rfl rfl rfl (congrArg _ (by rw [wrap_i64 (by omega) (by omega)]; (try simp only [decide_eq_true_eq, decide_eq_false_iff_not, beq_iff_eq, beq_eq_false_iff_ne, bne_iff_ne, bne_eq_false_iff_eq, ne_eq] at *); omega)) ?_
            refine l_as (v := (.slice (some ⟨bv, 0, none⟩) cs.dropLast.length c)) (cut_slice (s := 5) 0 (cs.length - 1) rfl rfl rfl rfl rfl rfl (by omega) (by omega)) rfl rfl (by rw [List.length_dropLast]; exact cutz bv 0 5 _ c) ?_
            refine l_l rfl rfl rfl ?_
            refine l_l (light_fa rfl rfl) rfl rfl ?_
            refine l_x (x_store 2 rfl rfl rfl rfl rfl rfl (by rw [hC_len hr]; simp)) rfl rfl ?_
            rintro _ _ ⟨rfl, rfl⟩
            simp only [List.set_cons_zero, List.set_cons_succ]
            rw [hC_setv]
            refine l_nil ?_
            refine c_exit rfl ?_
            exact ends_of (fun _ _ => rets_none) (fun _ h => h.sub (.cons _ (.cons _ (List.Sublist.refl _)))) ⟨rfl, by rw [ord_27 (by (try simp only [decide_eq_true_eq, decide_eq_false_iff_not, beq_iff_eq, beq_eq_false_iff_ne, bne_iff_ne, bne_eq_false_iff_eq, ne_eq] at *); omega)]; exact ⟨_, [_], rfl, pop_vec (by (try simp only [decide_eq_true_eq, decide_eq_false_iff_not, beq_iff_eq, beq_eq_false_iff_ne, bne_iff_ne, bne_eq_false_iff_eq, ne_eq] at *); omega) hzv hlv hxv, hr⟩⟩
          · refine c_skip ?_
            refine c_exit rfl ?_
            exact ends_of (fun _ _ => rets_none) (fun _ h => h.sub (.cons _ (.cons _ (List.Sublist.refl _)))) ⟨rfl, by rw [ord_27 (by (try simp only [decide_eq_true_eq, decide_eq_false_iff_not, beq_iff_eq, beq_eq_false_iff_ne, bne_iff_ne, bne_eq_false_iff_eq, ne_eq] at *); omega), pop_zero (by (try simp only [decide_eq_true_eq, decide_eq_false_iff_not, beq_iff_eq, beq_eq_false_iff_ne, bne_iff_ne, bne_eq_false_iff_eq, ne_eq] at *); omega)]; exact ⟨_, _, rfl, hV, hr⟩⟩
        · refine c_skip ?_
          refine c_exit rfl ?_
          exact ends_of (fun _ _ => rets_none) (fun _ h => h.sub (.cons _ (.cons _ (List.Sublist.refl _)))) ⟨rfl, by rw [ord_no (by (try simp only [decide_eq_true_eq, decide_eq_false_iff_not, beq_iff_eq, beq_eq_false_iff_ne, bne_iff_ne, bne_eq_false_iff_eq, ne_eq] at *); omega) (by (try simp only [decide_eq_true_eq, decide_eq_false_iff_not, beq_iff_eq, beq_eq_false_iff_ne, bne_iff_ne, bne_eq_false_iff_eq, ne_eq] at *); omega) (by (try simp only [decide_eq_true_eq, decide_eq_false_iff_not, beq_iff_eq, beq_eq_false_iff_ne, bne_iff_ne, bne_eq_false_iff_eq, ne_eq] at *); omega) (by (try simp only [decide_eq_true_eq, decide_eq_false_iff_not, beq_iff_eq, beq_eq_false_iff_ne, bne_iff_ne, bne_eq_false_iff_eq, ne_eq] at *); omega)]; exact ⟨_, _, rfl, hV, hr⟩⟩

theorem note_fn (b keep noted : Nat) (cs : List Cll) (ring : List Rcd) (hk1 : 1 ≤ keep) (hk2 : keep ≤ 32) (hnt : noted < 1000000000) (hcl : cs.length ≤ 256) (G : Heap) (w : World) (hL : HistH b keep noted cs ring G) (hst : St w (G.map (·.1)) G w) (s : Stp) (hs : StpOk s) :
    Does Try.prog 11 [.pointer (some ⟨b, 0, none⟩), .int .u64 s.n, .int .i64 s.bank, .agg (cD s).toArray, .int .u16 s.to] w (G.map (·.1)) (fun v H => v = .tuple #[] ∧ HistH b keep (noted + 1) (noteC cs s) (ring.set (noted % keep) (recOf s)) H) := by
  obtain ⟨v, GV, rfl, hV, hr⟩ := hL
  obtain ⟨a, c, rfl⟩ := hV.slice
  have hm32 : noted % keep < 32 := Nat.lt_of_lt_of_le (Nat.mod_lt _ (by omega)) hk2
  have hr2 : (ring.set (noted % keep) (recOf s)).length = 32 := by rw [List.length_set]; exact hr
  refine does_of Try.func11 rfl rfl rfl hst ?_
  refine c_seq ?_
  refine c_region ?_
  refine l_x (x_box rfl rfl) rfl rfl ?_
  rintro _ _ ⟨b8, rfl, rfl⟩
  refine l_nil ?_
  refine c_seq ?_
  refine c_seq ?_
  refine c_region ?_
  refine l_l rfl rfl rfl ?_
  refine l_l rfl rfl rfl ?_
  refine l_nil ?_
  refine c_false rfl ?_
  refine c_skip ?_
  refine c_seq ?_
  refine c_draw _ [5, 6, 7, 8, 10, 11, 12, 13, 14, 15, 16, 17, 18, 19, 20] (.step true 0 (.step true 1 (.step true 2 (.step true 3 (.step true 4 (.step true 5 (.step true 6 (.step true 7 (.step true 8 (.step true 9 (.step true 10 (.step true 11 (.step true 12 (.step true 13 (.step true 14 (.step true 15 (.step true 16 (.step true 17 (.step true 18 (.step true 19 (.step true 20 (.step true 21 (.step false 22 .done))))))))))))))))))))))) rfl (by kernel_rfl) (by kernel_rfl) (fun _ h => h) ?_
  refine d_light rfl rfl rfl rfl rfl ?_
  refine d_light rfl rfl rfl rfl rfl ?_
  refine d_light rfl rfl rfl rfl rfl ?_
  refine d_light rfl (light_fa rfl rfl) rfl rfl rfl ?_
  refine d_load rfl rfl rfl (s_own (by repeat (first | exact .head _ | refine .tail _ ?_ | refine List.mem_append_right _ ?_)) (hC_noted hr)) rfl rfl ?_
  refine d_light rfl rfl rfl rfl rfl ?_
  refine d_light rfl rfl rfl rfl rfl ?_
  refine d_light rfl (light_fa rfl rfl) rfl rfl rfl ?_
  refine d_load rfl rfl rfl (s_own (by repeat (first | exact .head _ | refine .tail _ ?_ | refine List.mem_append_right _ ?_)) (hC_keep hr)) rfl rfl ?_
  refine d_as (v := (.int .i64 ((noted % keep : Nat) : Int))) rfl (rem_pos rfl rfl (by omega)) rfl rfl rfl (congrArg _ mod_law) ?_
  refine d_light rfl rfl rfl rfl rfl ?_
  refine d_light rfl (light_fa rfl rfl) rfl rfl rfl ?_
  refine d_load rfl rfl rfl (s_own (by repeat (first | exact .head _ | refine .tail _ ?_ | refine List.mem_append_right _ ?_)) (by rfl)) rfl rfl ?_
  refine d_light rfl rfl rfl rfl rfl ?_
  refine d_light rfl (light_fa rfl rfl) rfl rfl rfl ?_
  refine d_load rfl rfl rfl (s_own (by repeat (first | exact .head _ | refine .tail _ ?_ | refine List.mem_append_right _ ?_)) (by rfl)) rfl rfl ?_
  refine d_light rfl (light_fa rfl rfl) rfl rfl rfl ?_
  refine d_loadA rfl rfl rfl rfl (by first | exact srow_own (by repeat (first | exact .head _ | refine .tail _ ?_ | refine List.mem_append_right _ ?_)) | exact srow_own_at (by repeat (first | exact .head _ | refine .tail _ ?_ | refine List.mem_append_right _ ?_)) _ 5 rfl) rfl rfl ?_
  refine d_light rfl (light_struct rfl rfl rfl rfl) rfl rfl rfl ?_
  refine d_light rfl rfl rfl rfl rfl ?_
  refine d_light rfl (light_fa rfl rfl) rfl rfl rfl ?_
  refine d_light rfl (idx_array (s := 9) (noted % keep) rfl rfl rfl rfl hm32) rfl rfl rfl ?_
  refine d_x rfl (x_store (vs := cR (recOf s)) 1 rfl rfl rfl rfl rfl rfl (by rw [hC_len hr, cR_len]; omega)) rfl rfl (by intro h; cases h) ?_
  rintro _ _ ⟨rfl, rfl⟩
  simp only [List.set_cons_zero, List.set_cons_succ]
  rw [show 0 + 1 + noted % keep * 9 = 1 + noted % keep * 9 by omega, hC_setr hr hm32]
  refine d_nil ?_
  refine c_seq ?_
  refine c_region ?_
  refine l_l rfl rfl rfl ?_
  refine l_l rfl rfl rfl ?_
  refine l_l (light_fa rfl rfl) rfl rfl ?_
  refine l_x (x_load rfl rfl (at_own (by repeat (first | exact .head _ | refine .tail _ ?_ | refine List.mem_append_right _ ?_)) (hC_noted hr2))) rfl rfl ?_
  rintro _ _ ⟨rfl, rfl⟩
  refine l_as (v := (.int .i64 ((noted + 1 : Nat) : Int))) rfl rfl rfl (congrArg _ (succ_law (by omega))) ?_
  refine l_l rfl rfl rfl ?_
  refine l_l (light_fa rfl rfl) rfl rfl ?_
  refine l_x (x_store 1 rfl rfl rfl rfl rfl rfl (by rw [hC_len hr2]; simp)) rfl rfl ?_
  rintro _ _ ⟨rfl, rfl⟩
  simp only [List.set_cons_zero, List.set_cons_succ]
  rw [show 0 + 290 = 290 from rfl, hC_setn hr2]
  refine l_nil ?_
  refine c_seq ?_
  refine c_region ?_
  refine l_l (light_fa rfl rfl) rfl rfl ?_
  refine l_x (x_load rfl rfl (at_own (by repeat (first | exact .head _ | refine .tail _ ?_ | refine List.mem_append_right _ ?_)) (by rfl))) rfl rfl ?_
  rintro _ _ ⟨rfl, rfl⟩
  refine l_nil ?_
  refine c_block ?_
  refine c_seq ?_
  refine c_region ?_
  refine l_l rfl rfl rfl ?_
  refine l_l rfl rfl rfl ?_
  refine l_nil ?_
  refine c_cond rfl (fun h1 => ?_) (fun h1 => ?_)
  · refine c_region ?_
    refine l_l rfl rfl rfl ?_
    refine l_l rfl rfl rfl ?_
    refine l_l (light_fa rfl rfl) rfl rfl ?_
    refine l_x (x_load rfl rfl (at_own (by repeat (first | exact .head _ | refine .tail _ ?_ | refine List.mem_append_right _ ?_)) (by rfl))) rfl rfl ?_
    rintro _ _ ⟨rfl, rfl⟩
    refine l_l rfl rfl rfl ?_
    refine l_l (light_fa rfl rfl) rfl rfl ?_
    refine l_x (x_load rfl rfl (at_own (by repeat (first | exact .head _ | refine .tail _ ?_ | refine List.mem_append_right _ ?_)) (by rfl))) rfl rfl ?_
    rintro _ _ ⟨rfl, rfl⟩
    refine l_l (light_struct rfl rfl rfl rfl) rfl rfl ?_
    refine l_heap (fun _ h => h.sub (.cons _ (List.Sublist.refl _))) ?_
    refine l_x (x_callA call_24 rfl (fun w hw => lay_fn b keep (noted + 1) cs (ring.set (noted % keep) (recOf s)) hcl _ w ⟨_, _, rfl, hV, hr2⟩ (St.lentA hw) ⟨3, s.bank, s.at_, s.to, s.at_⟩)) rfl rfl ?_
    rintro _ H9 ⟨rfl, hH9⟩
    refine l_nil ?_
    exact l_end (fun _ _ => rets_none) (List.Sublist.refl _) ⟨rfl, by rw [noteC_2 (by (try simp only [decide_eq_true_eq, decide_eq_false_iff_not, beq_iff_eq, beq_eq_false_iff_ne, bne_iff_ne, bne_eq_false_iff_eq, ne_eq] at *); omega)]; exact hH9⟩
  · refine c_seq ?_
    refine c_region ?_
    refine l_l rfl rfl rfl ?_
    refine l_l rfl rfl rfl ?_
    refine l_nil ?_
    refine c_cond rfl (fun h2 => ?_) (fun h2 => ?_)
    · refine c_region ?_
      refine l_l rfl rfl rfl ?_
      refine l_l rfl rfl rfl ?_
      refine l_x (x_loadA rfl rfl rfl (by first | exact row_own (by repeat (first | exact .head _ | refine .tail _ ?_ | refine List.mem_append_right _ ?_)) | exact row_own_at (by repeat (first | exact .head _ | refine .tail _ ?_ | refine List.mem_append_right _ ?_)) _ 9 rfl)) rfl rfl ?_
      rintro _ _ ⟨rfl, rfl⟩
      refine l_l rfl rfl rfl ?_
      refine l_heap (fun _ h => h.sub (.cons _ (List.Sublist.refl _))) ?_
      refine l_x (x_callA call_25 rfl (fun w hw => order_fn b keep (noted + 1) cs (ring.set (noted % keep) (recOf s)) hcl _ w ⟨_, _, rfl, hV, hr2⟩ (St.lentA hw) s hs)) rfl rfl ?_
      rintro _ H9 ⟨rfl, hH9⟩
      refine l_nil ?_
      exact l_end (fun _ _ => rets_none) (List.Sublist.refl _) ⟨rfl, by rw [noteC_1 (by (try simp only [decide_eq_true_eq, decide_eq_false_iff_not, beq_iff_eq, beq_eq_false_iff_ne, bne_iff_ne, bne_eq_false_iff_eq, ne_eq] at *); omega)]; exact hH9⟩
    · refine c_skip ?_
      exact ends_of (fun _ _ => rets_none) (fun _ h => h.sub (.cons _ (List.Sublist.refl _))) ⟨rfl, by rw [noteC_0 (by (try simp only [decide_eq_true_eq, decide_eq_false_iff_not, beq_iff_eq, beq_eq_false_iff_ne, bne_iff_ne, bne_eq_false_iff_eq, ne_eq] at *); omega) (by (try simp only [decide_eq_true_eq, decide_eq_false_iff_not, beq_iff_eq, beq_eq_false_iff_ne, bne_iff_ne, bne_eq_false_iff_eq, ne_eq] at *); omega)]; exact ⟨_, _, rfl, hV, hr2⟩⟩

theorem clone_fn (a : Option Addr) (c : Nat) (cs : List Cll) (hlen : cs.length < 1000000000) (w : World) (hS : SlW w cC a cs) :
    Does Try.prog 26 [.slice a cs.length c] w [] (fun v H => Vec 35 5 v cs.length (flat cC cs) H) := by
  refine does_of Try.func26 rfl rfl rfl (St.refl w) ?_
  refine c_seq ?_
  refine c_region ?_
  refine l_l rfl rfl rfl ?_
  refine l_nil ?_
  refine c_seq ?_
  refine c_seq ?_
  rcases hS with ⟨rfl, rfl⟩ | ⟨bs, os, rfl, hr⟩
  · refine c_region ?_
    refine l_l rfl rfl rfl ?_
    refine l_l rfl rfl rfl ?_
    refine l_nil ?_
    refine c_true rfl ?_
    refine c_seq ?_
    refine c_region ?_
    refine l_l rfl rfl rfl ?_
    refine l_nil ?_
    refine c_ret ?_
    exact l_end0 (fun _ _ => rets_v rfl) .nil
  · refine c_region ?_
    refine l_l rfl rfl rfl ?_
    refine l_l rfl rfl rfl ?_
    refine l_nil ?_
    refine c_false rfl ?_
    refine c_skip ?_
    refine c_seq ?_
    refine c_region ?_
    refine l_x (x_slc0 (el := 35) (n := 5) rfl) rfl rfl ?_
    rintro _ _ ⟨b5, rfl, rfl⟩
    refine l_l rfl rfl rfl ?_
    refine l_x (x_appendE (A := []) (G := [(b5, blk [] 35)]) (v := .slice (some ⟨b5, 0, none⟩) 0 0) (n := 0) (xs := []) (m := cs.length) (T := 35) (s := 5) (by_ := 24) (ys := flat cC cs) rfl rfl rfl rfl (.row b5 0 0 [] [] rfl rfl (by decide) (Nat.le_refl 0)) (fun w hw => .row _ _ _ _ _ (flat_len cC_len cs) (row_old hr (by simp) w hw)) (ones_flat_of ones_C _) (by omega) (by omega)) rfl rfl ?_
    rintro v7 _ ⟨G7, hV7, hnil7, rfl⟩
    refine l_as' (v := v7) rfl rfl rfl ?_
    refine l_nil ?_
    refine c_ret ?_
    exact l_end (fun _ _ => rets_one rfl) (List.sublist_append_left _ _) (hV7.as (Nat.zero_add _) (List.nil_append _))

theorem calls_fn (b keep noted : Nat) (cs : List Cll) (ring : List Rcd) (hcl : cs.length < 1000000000) (w : World) (hW : HistW w b keep noted cs ring) :
    Does Try.prog 12 [.pointer (some ⟨b, 0, none⟩)] w [] (fun v H => Vec 35 5 v cs.length (flat cC cs) H) := by
  obtain ⟨⟨a, c, q0, qc, qz, hS, hA⟩, q1, q2, q3, q4⟩ := hW
  refine does_of Try.func12 rfl rfl rfl (St.refl w) ?_
  refine c_seq ?_
  refine c_region ?_
  refine l_l rfl rfl rfl ?_
  refine l_nil ?_
  refine c_seq ?_
  refine c_seq ?_
  refine c_region ?_
  refine l_l rfl rfl rfl ?_
  refine l_l rfl rfl rfl ?_
  refine l_nil ?_
  refine c_false rfl ?_
  refine c_skip ?_
  refine c_seq ?_
  refine c_region ?_
  refine l_l rfl rfl rfl ?_
  refine l_l rfl rfl rfl ?_
  refine l_l (light_fa rfl rfl) rfl rfl ?_
  refine l_x (x_load rfl rfl (at_old q0 (by simp))) rfl rfl ?_
  rintro _ _ ⟨rfl, rfl⟩
  refine l_x (x_call call_26 rfl (fun w hw => clone_fn a c cs hcl w (hS.later0 hw))) rfl rfl ?_
  rintro v9 _ ⟨G9, hV9, rfl⟩
  refine l_as' (v := v9) rfl rfl rfl ?_
  refine l_nil ?_
  refine c_ret ?_
  exact l_end (fun _ _ => rets_one rfl) (List.sublist_append_left _ _) hV9

theorem did_fn (s : Stp) (w : World) :
    Does Try.prog 22 [.agg (cD s).toArray] w [] (fun v H => H = [] ∧ v = .agg (cD s).toArray) := by
  refine does_of Try.func22 rfl rfl rfl (St.refl w) ?_
  refine c_seq ?_
  refine c_region ?_
  refine l_x (x_box rfl rfl) rfl rfl ?_
  rintro _ _ ⟨b1, rfl, rfl⟩
  refine l_x (x_alloc rfl) rfl rfl ?_
  rintro _ _ ⟨b2, rfl, rfl⟩
  refine l_nil ?_
  refine c_seq ?_
  refine c_region ?_
  refine l_l (light_fa rfl rfl) rfl rfl ?_
  refine l_x (x_load rfl rfl (at_own (by repeat (first | exact .head _ | refine .tail _ ?_ | refine List.mem_append_right _ ?_)) (by rfl))) rfl rfl ?_
  rintro _ _ ⟨rfl, rfl⟩
  refine l_l (light_fa rfl rfl) rfl rfl ?_
  refine l_x (x_load rfl rfl (at_own (by repeat (first | exact .head _ | refine .tail _ ?_ | refine List.mem_append_right _ ?_)) (by rfl))) rfl rfl ?_
  rintro _ _ ⟨rfl, rfl⟩
  refine l_l (light_fa rfl rfl) rfl rfl ?_
  refine l_x (x_load rfl rfl (at_own (by repeat (first | exact .head _ | refine .tail _ ?_ | refine List.mem_append_right _ ?_)) (by rfl))) rfl rfl ?_
  rintro _ _ ⟨rfl, rfl⟩
  refine l_l (light_fa rfl rfl) rfl rfl ?_
  refine l_x (x_loadA rfl rfl rfl (by first | exact row_own (by repeat (first | exact .head _ | refine .tail _ ?_ | refine List.mem_append_right _ ?_)) | exact row_own_at (by repeat (first | exact .head _ | refine .tail _ ?_ | refine List.mem_append_right _ ?_)) _ 5 rfl)) rfl rfl ?_
  rintro _ _ ⟨rfl, rfl⟩
  refine l_l (light_fa rfl rfl) rfl rfl ?_
  refine l_x (x_load rfl rfl (at_own (by repeat (first | exact .head _ | refine .tail _ ?_ | refine List.mem_append_right _ ?_)) (by rfl))) rfl rfl ?_
  rintro _ _ ⟨rfl, rfl⟩
  refine l_l (light_struct rfl rfl rfl rfl) rfl rfl ?_
  refine l_x (by first | exact x_store 0 rfl rfl rfl rfl rfl rfl (by first | rfl | exact Nat.le_of_ble_eq_true rfl | (simp; done)) | exact x_store 1 rfl rfl rfl rfl rfl rfl (by first | rfl | exact Nat.le_of_ble_eq_true rfl | (simp; done)) | exact x_store 2 rfl rfl rfl rfl rfl rfl (by first | rfl | exact Nat.le_of_ble_eq_true rfl | (simp; done)) | exact x_store 3 rfl rfl rfl rfl rfl rfl (by first | rfl | exact Nat.le_of_ble_eq_true rfl | (simp; done))) rfl rfl ?_
  rintro _ _ ⟨rfl, rfl⟩
  refine l_nil ?_
  refine c_ret ?_
  exact l_end0 (fun w hw => rets_cell rfl rfl rfl (row_own (.head _) w hw)) ⟨rfl, rfl⟩

end Go.Proofs.Ytmafgccagaihbaa
