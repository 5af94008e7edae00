/- The contracts of the functions that turn a line. -/
import Derived.Test.YtkifhldkhemdlaaThin
import Derived.Test.YtkifhldkhemdlaaLeaf
import Derived.Test.YtkifhldkhemdlaaCalls
namespace Go.Proofs.Ytkifhldkhemdlaa
open Go Go.VV Go.Proofs
set_option linter.unusedSimpArgs false
set_option linter.unusedVariables false
theorem reverse_fn (b c : Nat) (ms : List Mark) (sp : List Value) (hlen : ms.length < 1000000000) (w : World) (hb : w.heap[b]? = some (blk (flat cm ms ++ sp) 56)) :
    Does Try.prog 27 [.slice (some ⟨b, 0, none⟩) ms.length c] w [b] (fun v H => v = .tuple #[] ∧ H = [(b, blk (flat cm ms.reverse ++ sp) 56)]) := by
  refine does_of Try.func27 rfl rfl rfl (St.lent1 hb) ?_
  refine c_seq ?_
  refine c_region ?_
  refine l_l rfl rfl rfl ?_
  refine l_l (by first | exact light_len rfl rfl | exact light_lens rfl rfl | rfl) rfl rfl ?_
  refine l_l rfl rfl rfl ?_
  refine l_l rfl rfl rfl ?_
  refine l_l rfl rfl rfl ?_
  refine l_nil ?_
  refine c_block ?_
  refine c_loop (σ := Nat × List Mark) [2, 3, 7, 8, 9, 10, 11, 12, 13, 14, 15, 16, 17, 18, 19, 20, 21, 22, 23, 24, 25, 26, 27] (fun s => [(2, .int .i64 s.1), (3, .int .i64 ((ms.length : Int) - 1 - s.1))]) (fun s => [(b, blk (flat cm s.2 ++ sp) 56)]) (fun s => s.1 ≤ ms.length ∧ Turned ms s.2 s.1) (fun s => ms.length - s.1) (0, ms) ?_ ?_ ?_ ?_
  · exact ⟨Nat.zero_le _, .zero ms⟩
  · exact .cons rfl (.cons (by show Value.int .i64 (IntKind.i64.wrap _) = _; rw [wrap_i64 (by omega) (by omega)]; simp) .nil)
  · exact fun _ h => h
  · rintro ⟨i, cur⟩ y ⟨hi, hT⟩
    simp only at hi hT ⊢
    have hcl := hT.1
    refine c_seq ?_
    refine c_seq ?_
    refine c_region ?_
    refine l_l rfl rfl rfl ?_
    refine l_l rfl rfl rfl ?_
    refine l_l rfl rfl rfl ?_
    refine l_nil ?_
    refine c_cond rfl (fun h1 => ?_) (fun h1 => ?_)
    · refine c_skip ?_
      refine c_seq ?_
      refine c_block ?_
      refine c_draw _ [8, 9, 10, 11] (.step true 0 (.step true 1 (.step true 2 (.step true 3 (.step true 4 (.step true 5 (.step true 6 (.step true 7 (.step true 8 (.step true 9 (.step true 10 (.step true 11 (.step true 12 (.step false 13 (.step true 14 (.step false 15 .done)))))))))))))))) rfl (by kernel_rfl) (by kernel_rfl) (fun _ h => h) ?_
      refine d_light rfl rfl rfl rfl rfl ?_
      refine d_light rfl rfl rfl rfl rfl ?_
      refine d_light rfl rfl rfl rfl rfl ?_
      refine d_light rfl rfl rfl rfl rfl ?_
      refine d_light rfl rfl rfl rfl rfl ?_
      refine d_light rfl rfl rfl rfl rfl ?_
      refine d_light rfl (idx_slice (s := 2) (ms.length - 1 - i) rfl rfl rfl (by (try simp only [decide_eq_true_eq, decide_eq_false_iff_not, beq_iff_eq, beq_eq_false_iff_ne, bne_iff_ne, bne_eq_false_iff_eq, ne_eq] at *); omega) (by (try simp only [decide_eq_true_eq, decide_eq_false_iff_not, beq_iff_eq, beq_eq_false_iff_ne, bne_iff_ne, bne_eq_false_iff_eq, ne_eq] at *); omega)) rfl rfl rfl ?_
      refine d_loadA rfl rfl rfl rfl (fun w hw => mark_row (srow_own (by repeat (first | exact .head _ | refine .tail _ ?_ | refine List.mem_append_right _ ?_)) w hw).left (by (try simp only [decide_eq_true_eq, decide_eq_false_iff_not, beq_iff_eq, beq_eq_false_iff_ne, bne_iff_ne, bne_eq_false_iff_eq, ne_eq] at *); omega)) rfl rfl ?_
      refine d_light rfl rfl rfl rfl rfl ?_
      refine d_light rfl rfl rfl rfl rfl ?_
      refine d_light rfl (idx_slice (s := 2) i rfl rfl rfl rfl (by (try simp only [decide_eq_true_eq, decide_eq_false_iff_not, beq_iff_eq, beq_eq_false_iff_ne, bne_iff_ne, bne_eq_false_iff_eq, ne_eq] at *); omega)) rfl rfl rfl ?_
      refine d_loadA rfl rfl rfl rfl (fun w hw => mark_row (srow_own (by repeat (first | exact .head _ | refine .tail _ ?_ | refine List.mem_append_right _ ?_)) w hw).left (by (try simp only [decide_eq_true_eq, decide_eq_false_iff_not, beq_iff_eq, beq_eq_false_iff_ne, bne_iff_ne, bne_eq_false_iff_eq, ne_eq] at *); omega)) rfl rfl ?_
      refine d_light rfl (idx_slice (s := 2) i rfl rfl rfl rfl (by (try simp only [decide_eq_true_eq, decide_eq_false_iff_not, beq_iff_eq, beq_eq_false_iff_ne, bne_iff_ne, bne_eq_false_iff_eq, ne_eq] at *); omega)) rfl rfl rfl ?_
      refine d_x rfl (x_store (vs := cm (cur.getD (ms.length - 1 - i) m0)) 0 rfl rfl rfl rfl rfl rfl (set_fits cur sp (by (try simp only [decide_eq_true_eq, decide_eq_false_iff_not, beq_iff_eq, beq_eq_false_iff_ne, bne_iff_ne, bne_eq_false_iff_eq, ne_eq] at *); omega) _)) rfl rfl (by intro h; cases h) ?_
      rintro _ _ ⟨rfl, rfl⟩
      simp only [List.set_cons_zero]
      rw [putL_set cur sp (k := i) (by (try simp only [decide_eq_true_eq, decide_eq_false_iff_not, beq_iff_eq, beq_eq_false_iff_ne, bne_iff_ne, bne_eq_false_iff_eq, ne_eq] at *); omega)]
      refine d_light rfl (idx_slice (s := 2) (ms.length - 1 - i) rfl rfl rfl (by (try simp only [decide_eq_true_eq, decide_eq_false_iff_not, beq_iff_eq, beq_eq_false_iff_ne, bne_iff_ne, bne_eq_false_iff_eq, ne_eq] at *); omega) (by (try simp only [decide_eq_true_eq, decide_eq_false_iff_not, beq_iff_eq, beq_eq_false_iff_ne, bne_iff_ne, bne_eq_false_iff_eq, ne_eq] at *); omega)) rfl rfl rfl ?_
      refine d_x rfl (x_store (vs := cm (cur.getD i m0)) 0 rfl rfl rfl rfl rfl rfl (set_fits (cur.set i _) sp (by simp only [List.length_set]; (try simp only [decide_eq_true_eq, decide_eq_false_iff_not, beq_iff_eq, beq_eq_false_iff_ne, bne_iff_ne, bne_eq_false_iff_eq, ne_eq] at *); omega) _)) rfl rfl (by intro h; cases h) ?_
      rintro _ _ ⟨rfl, rfl⟩
      simp only [List.set_cons_zero]
      rw [putL_set (cur.set i _) sp (k := ms.length - 1 - i) (by simp only [List.length_set]; (try simp only [decide_eq_true_eq, decide_eq_false_iff_not, beq_iff_eq, beq_eq_false_iff_ne, bne_iff_ne, bne_eq_false_iff_eq, ne_eq] at *); omega)]
      refine d_nil ?_
      refine c_region ?_
      refine l_l rfl rfl rfl ?_
      refine l_l rfl rfl rfl ?_
      refine l_l rfl rfl rfl ?_
      refine l_l rfl rfl rfl ?_
      refine l_l rfl rfl rfl ?_
      refine l_l rfl rfl rfl ?_
      refine l_nil ?_
      refine ⟨(i + 1, _), ⟨by (try simp only [decide_eq_true_eq, decide_eq_false_iff_not, beq_iff_eq, beq_eq_false_iff_ne, bne_iff_ne, bne_eq_false_iff_eq, ne_eq] at *); omega, hT.step (by (try simp only [decide_eq_true_eq, decide_eq_false_iff_not, beq_iff_eq, beq_eq_false_iff_ne, bne_iff_ne, bne_eq_false_iff_eq, ne_eq] at *); omega)⟩, by (try simp only [decide_eq_true_eq, decide_eq_false_iff_not, beq_iff_eq, beq_eq_false_iff_ne, bne_iff_ne, bne_eq_false_iff_eq, ne_eq] at *); omega, .cons (congrArg _ (succ_law (by omega))) (.cons (congrArg _ (turn_law (by (try simp only [decide_eq_true_eq, decide_eq_false_iff_not, beq_iff_eq, beq_eq_false_iff_ne, bne_iff_ne, bne_eq_false_iff_eq, ne_eq] at *); omega) (by (try simp only [decide_eq_true_eq, decide_eq_false_iff_not, beq_iff_eq, beq_eq_false_iff_ne, bne_iff_ne, bne_eq_false_iff_eq, ne_eq] at *); omega))) .nil), (by repeat (first | exact Agree.refl _ _ | exact Agree.mix rfl | refine Agree.put rfl ?_ | refine Agree.keep rfl ?_)), fun _ h => h⟩
    · refine c_exit rfl ?_
      rw [hT.last (by (try simp only [decide_eq_true_eq, decide_eq_false_iff_not, beq_iff_eq, beq_eq_false_iff_ne, bne_iff_ne, bne_eq_false_iff_eq, ne_eq] at *); omega)]
      exact l_end (fun _ _ => rets_none) (List.Sublist.refl _) ⟨rfl, rfl⟩

theorem backward0_fn (a : Option Addr) (n c : Nat) (w : World) :
    Does Try.prog 26 [.slice a n c] w [] (fun v H => ∃ b, v = .func (.func 30) #[] #[.pointer (some ⟨b, 0, none⟩)] ∧ H = [(b, blk [.slice a n c] 51)]) := by
  refine does_of Try.func26 rfl rfl rfl (St.refl w) ?_
  refine c_seq ?_
  refine c_region ?_
  refine l_x (x_box rfl rfl) rfl rfl ?_
  rintro _ _ ⟨b1, rfl, rfl⟩
  refine l_l rfl rfl rfl ?_
  refine l_nil ?_
  refine c_seq ?_
  refine c_region ?_
  refine l_as (v := (.func (.func 30) #[] #[.pointer (some ⟨b1, 0, none⟩)])) rfl rfl rfl (by simp only [List.map_toArray, List.map_cons, List.map_nil]; rfl) ?_
  refine l_l rfl rfl rfl ?_
  refine l_nil ?_
  refine c_ret ?_
  exact l_end (fun _ _ => rets_v rfl) (List.Sublist.refl _) ⟨_, rfl, rfl⟩

theorem backward_fn {σ : Type} (w : World) (bs : List Nat) (lb bx bm m c : Nat) (rec : Loop) (nn p q : Nat) (e0 : Env) (assign body : Code) (ms : List Mark) (sp : List Value) (Hs : σ → Heap) (J : σ → Prop) (cnt : σ → Nat) (s0 : σ)
    (hrec : LoopOf nn e0 [p, q] assign body rec) (hpq : [p, q].all (fun p => Nat.blt p nn) = true) (hm : m ≤ ms.length) (hlen : ms.length < 1000000000) (hJ : J s0) (h0 : cnt s0 = 0)
    (hst : St w bs (bwH lb bx bm m c rec ms sp (Hs s0)) w)
    (round : ∀ s, J s → cnt s < m → Round ⟨Try.prog, Try.f30.ntmps, w, bs, none, []⟩ nn lb rec [p, q] assign body [.int .i64 ((m : Int) - 1 - cnt s), .agg (cm (ms.getD (m - 1 - cnt s) m0)).toArray] e0 (bwH lb bx bm m c rec ms sp (Hs s))
      (fun v H' => v = .bool true ∧ ∃ s', J s' ∧ cnt s' = cnt s + 1 ∧ ∀ w', St w bs H' w' → St w bs (bwH lb bx bm m c rec ms sp (Hs s')) w')) :
    Does Try.prog 30 [.func (.yield lb) #[] #[], .pointer (some ⟨bx, 0, none⟩)] w bs (fun v H => v = .tuple #[] ∧ ∃ s, J s ∧ cnt s = m ∧ H = bwH lb bx bm m c rec ms sp (Hs s)) := by
  refine does_of Try.func30 rfl rfl rfl hst ?_
  refine c_seq ?_
  refine c_region ?_
  refine l_x (x_load rfl rfl (at_own (by repeat (first | exact .head _ | refine .tail _ ?_ | refine List.mem_append_right _ ?_)) (by rfl))) rfl rfl ?_
  rintro _ _ ⟨rfl, rfl⟩
  refine l_l (by first | exact light_len rfl rfl | exact light_lens rfl rfl | rfl) rfl rfl ?_
  refine l_l rfl rfl rfl ?_
  refine l_l rfl rfl rfl ?_
  refine l_nil ?_
  refine c_block ?_
  refine c_loop (σ := σ) [3, 7, 8, 9, 10, 11, 12, 13, 14, 15, 16, 17, 18] (fun s => [(3, .int .i64 ((m : Int) - 1 - cnt s))]) (fun s => bwH lb bx bm m c rec ms sp (Hs s)) (fun s => J s ∧ cnt s ≤ m) (fun s => m - cnt s) s0 ?_ ?_ ?_ ?_
  · exact ⟨hJ, by omega⟩
  · exact .cons (by show Value.int .i64 (IntKind.i64.wrap _) = _; rw [h0, wrap_i64 (by omega) (by omega)]; simp) .nil
  · exact fun _ h => h
  · rintro s y ⟨hJs, hcs⟩
    refine c_seq ?_
    refine c_seq ?_
    refine c_region ?_
    refine l_l rfl rfl rfl ?_
    refine l_l rfl rfl rfl ?_
    refine l_nil ?_
    refine c_cond rfl (fun h1 => ?_) (fun h1 => ?_)
    · refine c_skip ?_
      refine c_seq ?_
      refine c_block ?_
      refine c_seq ?_
      refine c_region ?_
      refine l_l rfl rfl rfl ?_
      refine l_l rfl rfl rfl ?_
      refine l_x (x_load rfl rfl (at_own (by repeat (first | exact .head _ | refine .tail _ ?_ | refine List.mem_append_right _ ?_)) (by rfl))) rfl rfl ?_
      rintro _ _ ⟨rfl, rfl⟩
      refine l_l rfl rfl rfl ?_
      refine l_l (idx_slice (s := 2) (m - 1 - cnt s) rfl rfl rfl (by (try simp only [decide_eq_true_eq, decide_eq_false_iff_not, beq_iff_eq, beq_eq_false_iff_ne, bne_iff_ne, bne_eq_false_iff_eq, ne_eq] at *); omega) (by (try simp only [decide_eq_true_eq, decide_eq_false_iff_not, beq_iff_eq, beq_eq_false_iff_ne, bne_iff_ne, bne_eq_false_iff_eq, ne_eq] at *); omega)) rfl rfl ?_
      refine l_x (x_loadA rfl rfl rfl (fun w hw => mark_row (row_own (by repeat (first | exact .head _ | refine .tail _ ?_ | refine List.mem_append_right _ ?_)) w hw).left (by (try simp only [decide_eq_true_eq, decide_eq_false_iff_not, beq_iff_eq, beq_eq_false_iff_ne, bne_iff_ne, bne_eq_false_iff_eq, ne_eq] at *); omega))) rfl rfl ?_
      rintro _ _ ⟨rfl, rfl⟩
      refine l_yield (lb := lb) (rec := rec) (ps := [p, q]) rfl rfl rfl rfl rfl hpq (.head _) hrec (round s hJs (by (try simp only [decide_eq_true_eq, decide_eq_false_iff_not, beq_iff_eq, beq_eq_false_iff_ne, bne_iff_ne, bne_eq_false_iff_eq, ne_eq] at *); omega)) ?_
      rintro _ H' ⟨rfl, s', hJ', hc', hst'⟩
      refine l_l rfl rfl rfl ?_
      refine l_nil ?_
      refine c_false rfl ?_
      refine c_skip ?_
      refine c_region ?_
      refine l_l rfl rfl rfl ?_
      refine l_l rfl rfl rfl ?_
      refine l_l rfl rfl rfl ?_
      refine l_nil ?_
      exact ⟨s', ⟨hJ', by (try simp only [decide_eq_true_eq, decide_eq_false_iff_not, beq_iff_eq, beq_eq_false_iff_ne, bne_iff_ne, bne_eq_false_iff_eq, ne_eq] at *); omega⟩, by (try simp only [decide_eq_true_eq, decide_eq_false_iff_not, beq_iff_eq, beq_eq_false_iff_ne, bne_iff_ne, bne_eq_false_iff_eq, ne_eq] at *); omega, .cons (congrArg _ (turn_law2 hc' (by (try simp only [decide_eq_true_eq, decide_eq_false_iff_not, beq_iff_eq, beq_eq_false_iff_ne, bne_iff_ne, bne_eq_false_iff_eq, ne_eq] at *); omega) (by (try simp only [decide_eq_true_eq, decide_eq_false_iff_not, beq_iff_eq, beq_eq_false_iff_ne, bne_iff_ne, bne_eq_false_iff_eq, ne_eq] at *); omega))) .nil, (by repeat (first | exact Agree.refl _ _ | exact Agree.mix rfl | refine Agree.put rfl ?_ | refine Agree.keep rfl ?_)), fun w' h => hst' w' h⟩
    · refine c_exit rfl ?_
      exact l_end (fun _ _ => rets_none) (List.Sublist.refl _) ⟨rfl, s, hJs, by (try simp only [decide_eq_true_eq, decide_eq_false_iff_not, beq_iff_eq, beq_eq_false_iff_ne, bne_iff_ne, bne_eq_false_iff_eq, ne_eq] at *); omega, rfl⟩

set_option maxHeartbeats 4000000 in
theorem thin_fn (b : Nat) (cap : Int) (ms : List Mark) (hR : Rise ms) (hne : ms.length ≠ 0) (hlen : ms.length < 1000000000) (G : Heap) (w : World) (hL : LineH b cap ms G) (hst : St w (G.map (·.1)) G w) :
    Does Try.prog 21 [.pointer (some ⟨b, 0, none⟩)] w (G.map (·.1)) (fun v H => v = .tuple #[] ∧ LineH b cap (thinL ms) H) := by
  obtain ⟨v, G', rfl, hV⟩ := hL
  obtain ⟨bm, c, sp, rfl, rfl, hsz, hcl, hmx⟩ := marks_some hV hne
  refine does_of_T Try.func21 rfl rfl rfl hst ?_
  refine t_seq rfl ?_
  refine c_region ?_
  refine l_x (x_box rfl rfl) rfl rfl ?_
  rintro _ _ ⟨b1, rfl, rfl⟩
  refine l_nil ?_
  refine t_seq rfl ?_
  refine c_region ?_
  refine l_x (x_load rfl rfl (at_own (by repeat (first | exact .head _ | refine .tail _ ?_ | refine List.mem_append_right _ ?_)) (by rfl))) rfl rfl ?_
  rintro _ _ ⟨rfl, rfl⟩
  refine l_l rfl rfl rfl ?_
  refine l_l (light_fa rfl rfl) rfl rfl ?_
  refine l_x (x_load rfl rfl (at_own (by repeat (first | exact .head _ | refine .tail _ ?_ | refine List.mem_append_right _ ?_)) (by rfl))) rfl rfl ?_
  rintro _ _ ⟨rfl, rfl⟩
  refine l_l (by first | exact light_len rfl rfl | exact light_lens rfl rfl | rfl) rfl rfl ?_
  refine l_l rfl rfl rfl ?_
  refine l_nil ?_
  refine t_seq rfl ?_
  refine c_region ?_
  refine l_x (x_load rfl rfl (at_own (by repeat (first | exact .head _ | refine .tail _ ?_ | refine List.mem_append_right _ ?_)) (by rfl))) rfl rfl ?_
  rintro _ _ ⟨rfl, rfl⟩
  refine l_l rfl rfl rfl ?_
  refine l_l (light_fa rfl rfl) rfl rfl ?_
  refine l_x (x_load rfl rfl (at_own (by repeat (first | exact .head _ | refine .tail _ ?_ | refine List.mem_append_right _ ?_)) (by rfl))) rfl rfl ?_
  rintro _ _ ⟨rfl, rfl⟩
  refine l_l rfl rfl rfl ?_
  refine l_as (v := (.int .i64 ((ms.length - 1 : Nat) : Int))) rfl rfl rfl (congrArg _ (len1 (by (try simp only [decide_eq_true_eq, decide_eq_false_iff_not, beq_iff_eq, beq_eq_false_iff_ne, bne_iff_ne, bne_eq_false_iff_eq, ne_eq] at *); omega) hlen)) ?_
  refine l_l (idx_slice (s := 2) (ms.length - 1) rfl rfl rfl rfl (by (try simp only [decide_eq_true_eq, decide_eq_false_iff_not, beq_iff_eq, beq_eq_false_iff_ne, bne_iff_ne, bne_eq_false_iff_eq, ne_eq] at *); omega)) rfl rfl ?_
  refine l_l (light_fa rfl rfl) rfl rfl ?_
  refine l_x (x_load rfl rfl (fun w hw => last_at hne (row_own (by repeat (first | exact .head _ | refine .tail _ ?_ | refine List.mem_append_right _ ?_)) w hw).left)) rfl rfl ?_
  rintro _ _ ⟨rfl, rfl⟩
  refine l_x (x_alloc rfl) rfl rfl ?_
  rintro _ _ ⟨b3, rfl, rfl⟩
  refine l_x (by first | exact x_store 0 rfl rfl rfl rfl rfl rfl (by first | rfl | exact Nat.le_of_ble_eq_true rfl | (simp; done)) | exact x_store 1 rfl rfl rfl rfl rfl rfl (by first | rfl | exact Nat.le_of_ble_eq_true rfl | (simp; done)) | exact x_store 2 rfl rfl rfl rfl rfl rfl (by first | rfl | exact Nat.le_of_ble_eq_true rfl | (simp; done)) | exact x_store 3 rfl rfl rfl rfl rfl rfl (by first | rfl | exact Nat.le_of_ble_eq_true rfl | (simp; done))) rfl rfl ?_
  rintro _ _ ⟨rfl, rfl⟩
  refine l_nil ?_
  refine t_seq rfl ?_
  refine c_region ?_
  refine l_x (x_load rfl rfl (at_own (by repeat (first | exact .head _ | refine .tail _ ?_ | refine List.mem_append_right _ ?_)) (by rfl))) rfl rfl ?_
  rintro _ _ ⟨rfl, rfl⟩
  refine l_l rfl rfl rfl ?_
  refine l_l (light_fa rfl rfl) rfl rfl ?_
  refine l_x (x_load rfl rfl (at_own (by repeat (first | exact .head _ | refine .tail _ ?_ | refine List.mem_append_right _ ?_)) (by rfl))) rfl rfl ?_
  rintro _ _ ⟨rfl, rfl⟩
  refine l_l rfl rfl rfl ?_
  refine l_as (v := (.int .i64 ((ms.length - 1 : Nat) : Int))) rfl rfl rfl (congrArg _ (len1 (by (try simp only [decide_eq_true_eq, decide_eq_false_iff_not, beq_iff_eq, beq_eq_false_iff_ne, bne_iff_ne, bne_eq_false_iff_eq, ne_eq] at *); omega) hlen)) ?_
  refine l_l (idx_slice (s := 2) (ms.length - 1) rfl rfl rfl rfl (by (try simp only [decide_eq_true_eq, decide_eq_false_iff_not, beq_iff_eq, beq_eq_false_iff_ne, bne_iff_ne, bne_eq_false_iff_eq, ne_eq] at *); omega)) rfl rfl ?_
  refine l_x (x_loadA rfl rfl rfl (fun w hw => mark_row (row_own (by repeat (first | exact .head _ | refine .tail _ ?_ | refine List.mem_append_right _ ?_)) w hw).left (by (try simp only [decide_eq_true_eq, decide_eq_false_iff_not, beq_iff_eq, beq_eq_false_iff_ne, bne_iff_ne, bne_eq_false_iff_eq, ne_eq] at *); omega))) rfl rfl ?_
  rintro _ _ ⟨rfl, rfl⟩
  refine l_x (x_slc rfl rfl rfl rfl rfl rfl) rfl rfl ?_
  rintro _ _ ⟨b30, rfl, rfl⟩
  refine l_x (x_alloc rfl) rfl rfl ?_
  rintro _ _ ⟨b4, rfl, rfl⟩
  refine l_x (by first | exact x_store 0 rfl rfl rfl rfl rfl rfl (by first | rfl | exact Nat.le_of_ble_eq_true rfl | (simp; done)) | exact x_store 1 rfl rfl rfl rfl rfl rfl (by first | rfl | exact Nat.le_of_ble_eq_true rfl | (simp; done)) | exact x_store 2 rfl rfl rfl rfl rfl rfl (by first | rfl | exact Nat.le_of_ble_eq_true rfl | (simp; done)) | exact x_store 3 rfl rfl rfl rfl rfl rfl (by first | rfl | exact Nat.le_of_ble_eq_true rfl | (simp; done))) rfl rfl ?_
  rintro _ _ ⟨rfl, rfl⟩
  refine l_nil ?_
  refine t_seq2 rfl ?_
  refine c_region ?_
  refine l_x (x_load rfl rfl (at_own (by repeat (first | exact .head _ | refine .tail _ ?_ | refine List.mem_append_right _ ?_)) (by rfl))) rfl rfl ?_
  rintro _ _ ⟨rfl, rfl⟩
  refine l_l rfl rfl rfl ?_
  refine l_l (light_fa rfl rfl) rfl rfl ?_
  refine l_x (x_load rfl rfl (at_own (by repeat (first | exact .head _ | refine .tail _ ?_ | refine List.mem_append_right _ ?_)) (by rfl))) rfl rfl ?_
  rintro _ _ ⟨rfl, rfl⟩
  refine l_l rfl rfl rfl ?_
  refine l_as (v := (.int .i64 ((ms.length - 1 : Nat) : Int))) rfl rfl rfl (congrArg _ (len1 (by (try simp only [decide_eq_true_eq, decide_eq_false_iff_not, beq_iff_eq, beq_eq_false_iff_ne, bne_iff_ne, bne_eq_false_iff_eq, ne_eq] at *); omega) hlen)) ?_
  refine l_as (v := (.slice (some ⟨bm, 0, none⟩) (ms.length - 1) c)) (cut_slice (s := 2) 0 (ms.length - 1) rfl rfl rfl rfl rfl rfl (Nat.zero_le _) (by omega)) rfl rfl cut0 ?_
  refine l_x (x_call call_26 rfl (fun w hw => backward0_fn _ _ _ w)) rfl rfl ?_
  rintro _ _ ⟨G38, ⟨bx, rfl, rfl⟩, rfl⟩
  refine l_nil ?_
  refine t_range (A := []) rfl rfl rfl call_30 ?_
  intro w9 D0 lb rec hD hlb hrec w2 hw2
  refine ⟨bwH lb bx bm (ms.length - 1) c rec ms sp (thinHs b4 b3 b1 b (lastT ms) [.slice (some ⟨bm, 0, none⟩) ms.length c, .int .i64 cap] ⟨0, [ms.getD (ms.length - 1) m0], b30, 1, [], ms.length - 1⟩), [(D0, .deferred (some []))], _, _, fun w' h => St.pick [0, 2, 8, 3, 5, 6, 7, 4, 1] h rfl, fun _ hb => mem_fst hb,
    backward_fn (σ := TS) w2 _ lb bx bm (ms.length - 1) c rec Try.f21.ntmps 39 40 _ _ _ ms sp (thinHs b4 b3 b1 b (lastT ms) [.slice (some ⟨bm, 0, none⟩) ms.length c, .int .i64 cap]) (TS.ok ms) TS.j ⟨0, [ms.getD (ms.length - 1) m0], b30, 1, [], ms.length - 1⟩ hrec rfl (by omega) hlen ⟨.zero hne, rfl, Nat.le_refl _, by show (1 : Nat) ≤ maxLen; decide⟩ rfl (St.lend (G := [(D0, .deferred (some []))]) (St.pick [0, 2, 8, 3, 5, 6, 7, 4, 1] hw2 rfl)) ?_, ?_⟩
  · rintro ⟨j, K, bK, cK, spK, q⟩ ⟨hK, hsz9, hcl9, hmx9⟩ hj
    dsimp only [bwH, thinHs] at hK hsz9 hcl9 hmx9 hj ⊢
    unfold Round
    have hqhi := hK.hi
    have hqlo := hK.lo
    refine c_seq ?_
    refine c_region ?_
    refine l_l rfl rfl rfl ?_
    refine l_nil ?_
    refine c_region ?_
    refine l_x (x_alloc rfl) rfl rfl ?_
    rintro _ _ ⟨b6, rfl, rfl⟩
    refine l_x (by first | exact x_store 0 rfl rfl rfl rfl rfl rfl (by first | rfl | exact Nat.le_of_ble_eq_true rfl | (simp; done)) | exact x_store 1 rfl rfl rfl rfl rfl rfl (by first | rfl | exact Nat.le_of_ble_eq_true rfl | (simp; done)) | exact x_store 2 rfl rfl rfl rfl rfl rfl (by first | rfl | exact Nat.le_of_ble_eq_true rfl | (simp; done)) | exact x_store 3 rfl rfl rfl rfl rfl rfl (by first | rfl | exact Nat.le_of_ble_eq_true rfl | (simp; done))) rfl rfl ?_
    rintro _ _ ⟨rfl, rfl⟩
    refine l_nil ?_
    refine ⟨_, fun _ h => h.perm (List.Perm.swap _ _ _), ?_⟩
    refine c_block ?_
    refine c_seq ?_
    refine c_region ?_
    refine l_x (x_load rfl rfl (at_own (by repeat (first | exact .head _ | refine .tail _ ?_ | refine List.mem_append_right _ ?_)) (by rfl))) rfl rfl ?_
    rintro _ _ ⟨rfl, rfl⟩
    refine l_x (x_load rfl rfl (at_own (by repeat (first | exact .head _ | refine .tail _ ?_ | refine List.mem_append_right _ ?_)) (by rfl))) rfl rfl ?_
    rintro _ _ ⟨rfl, rfl⟩
    refine l_l (by first | exact light_len rfl rfl | exact light_lens rfl rfl | rfl) rfl rfl ?_
    refine l_as (v := (.int .i64 ((K.length - 1 : Nat) : Int))) rfl rfl rfl (congrArg _ (len1 (by have := hK.pos; omega) (by have := hK.small; (try simp only [decide_eq_true_eq, decide_eq_false_iff_not, beq_iff_eq, beq_eq_false_iff_ne, bne_iff_ne, bne_eq_false_iff_eq, ne_eq] at *); omega))) ?_
    refine l_l (idx_slice (s := 2) (K.length - 1) rfl rfl rfl rfl (by have := hK.pos; omega)) rfl rfl ?_
    refine l_l (light_fa rfl rfl) rfl rfl ?_
    refine l_x (x_load rfl rfl (fun w hw => hK.at_ (row_own (by repeat (first | exact .head _ | refine .tail _ ?_ | refine List.mem_append_right _ ?_)) w hw).left)) rfl rfl ?_
    rintro _ _ ⟨rfl, rfl⟩
    refine l_l rfl rfl rfl ?_
    refine l_nil ?_
    refine c_seq ?_
    refine c_seq ?_
    refine c_draw _ [8, 9, 14, 15, 16, 17] (.step true 0 (.step true 1 (.step true 2 (.step true 3 (.step true 4 (.step true 5 (.step true 6 (.step true 7 (.step true 8 (.step true 9 (.step true 10 (.step true 11 (.step true 12 (.step true 13 (.step true 14 (.step true 15 (.step true 16 (.step true 17 (.step true 18 (.step true 19 .done)))))))))))))))))))) rfl (by kernel_rfl) (by kernel_rfl) (fun _ h => h) ?_
    refine d_light rfl rfl rfl rfl rfl ?_
    refine d_light rfl rfl rfl rfl rfl ?_
    refine d_bool rfl rfl rfl rfl (fun h1 => ?_) (fun h1 => ?_)
    · refine d_light rfl rfl rfl rfl rfl ?_
      refine d_load rfl rfl rfl (s_own (by repeat (first | exact .head _ | refine .tail _ ?_ | refine List.mem_append_right _ ?_)) (by rfl)) rfl rfl ?_
      refine d_light rfl rfl rfl rfl rfl ?_
      refine d_light rfl (light_fa rfl rfl) rfl rfl rfl ?_
      refine d_load rfl rfl rfl (s_own (by repeat (first | exact .head _ | refine .tail _ ?_ | refine List.mem_append_right _ ?_)) (by rfl)) rfl rfl ?_
      refine d_light rfl rfl rfl rfl rfl ?_
      refine d_as (v := (.int .i64 ((ms.length - 1 - 1 - j - 1 : Nat) : Int))) rfl rfl rfl rfl rfl (congrArg _ (by rw [wrap_i64 (by (try simp only [decide_eq_true_eq, decide_eq_false_iff_not, beq_iff_eq, beq_eq_false_iff_ne, bne_iff_ne, bne_eq_false_iff_eq, ne_eq] at *); omega) (by (try simp only [decide_eq_true_eq, decide_eq_false_iff_not, beq_iff_eq, beq_eq_false_iff_ne, bne_iff_ne, bne_eq_false_iff_eq, ne_eq] at *); omega)]; (try simp only [decide_eq_true_eq, decide_eq_false_iff_not, beq_iff_eq, beq_eq_false_iff_ne, bne_iff_ne, bne_eq_false_iff_eq, ne_eq] at *); omega)) ?_
      refine d_light rfl (idx_slice (s := 2) (ms.length - 1 - 1 - j - 1) rfl rfl rfl rfl (by (try simp only [decide_eq_true_eq, decide_eq_false_iff_not, beq_iff_eq, beq_eq_false_iff_ne, bne_iff_ne, bne_eq_false_iff_eq, ne_eq] at *); omega)) rfl rfl rfl ?_
      refine d_light rfl (light_fa rfl rfl) rfl rfl rfl ?_
      refine d_load rfl rfl rfl (fun w hw => mark_t (srow_own (by repeat (first | exact .head _ | refine .tail _ ?_ | refine List.mem_append_right _ ?_)) w hw).left (by (try simp only [decide_eq_true_eq, decide_eq_false_iff_not, beq_iff_eq, beq_eq_false_iff_ne, bne_iff_ne, bne_eq_false_iff_eq, ne_eq] at *); omega)) rfl rfl ?_
      refine d_light rfl rfl rfl rfl rfl ?_
      refine d_load rfl rfl rfl (s_own (by repeat (first | exact .head _ | refine .tail _ ?_ | refine List.mem_append_right _ ?_)) (by rfl)) rfl rfl ?_
      refine d_light rfl rfl rfl rfl rfl ?_
      refine d_light rfl rfl rfl rfl rfl ?_
      refine d_light rfl rfl rfl rfl rfl ?_
      refine d_light rfl rfl rfl rfl rfl ?_
      refine d_light rfl rfl rfl rfl rfl ?_
      refine d_nil ?_
      refine c_cond rfl (fun h2 => ?_) (fun h2 => ?_)
      · refine c_exit rfl ?_
        exact ⟨_, fun _ h => St.pick [0, 2, 3, 4, 5, 6, 7, 8] h rfl, rfl, ⟨j + 1, K, bK, cK, spK, q⟩, ⟨hK.skip hR (by (try simp only [decide_eq_true_eq, decide_eq_false_iff_not, beq_iff_eq, beq_eq_false_iff_ne, bne_iff_ne, bne_eq_false_iff_eq, ne_eq] at *); omega) h2, hsz9, hcl9, hmx9⟩, rfl, fun _ h => h⟩
      · refine c_skip ?_
        refine c_region ?_
        refine l_x (x_load rfl rfl (at_own (by repeat (first | exact .head _ | refine .tail _ ?_ | refine List.mem_append_right _ ?_)) (by rfl))) rfl rfl ?_
        rintro _ _ ⟨rfl, rfl⟩
        refine l_x (x_loadA rfl rfl rfl (row_own (by repeat (first | exact .head _ | refine .tail _ ?_ | refine List.mem_append_right _ ?_)))) rfl rfl ?_
        rintro _ _ ⟨rfl, rfl⟩
        refine l_x (x_slc rfl rfl rfl rfl rfl rfl) rfl rfl ?_
        rintro _ _ ⟨b70, rfl, rfl⟩
        refine l_x (x_append (A := [_, _, _, _, _, _, _, _, _]) (G := [(bK, blk (flat cm K ++ spK) 56)]) (R := []) (v := .slice (some ⟨bK, 0, none⟩) K.length cK) (n := K.length) (m := 1) (T := 56) (s := 2) (by_ := 32) (ys := cm (ms.getD (ms.length - 1 - 1 - j) m0)) rfl rfl rfl rfl (vec_marks hsz9 hcl9 hmx9) (fun w hw => .row _ _ _ _ _ rfl (row_own (.head _) w hw)) rfl (by have := hK.small; omega) (by have := hK.small; omega)) rfl rfl ?_
        rintro v71 _ ⟨G', hV', hnil, rfl⟩
        obtain ⟨b9, c9, sp9, rfl, rfl, hz9, hl9, hx9⟩ := vec_some hV' (by omega)
        rw [show flat cm K ++ _ = flat cm (K ++ [ms.getD (ms.length - 1 - 1 - j) m0]) from (flat_snoc _ _).symm] at hz9 ⊢
        rw [show K.length + 1 = (K ++ [ms.getD (ms.length - 1 - 1 - j) m0]).length by simp] at hl9 ⊢
        refine l_x (x_store 6 rfl rfl rfl rfl rfl rfl (by simp)) rfl rfl ?_
        rintro _ _ ⟨rfl, rfl⟩
        refine l_nil ?_
        exact ⟨_, fun _ h => St.pick [2, 4, 5, 6, 7, 8, 9, 0] h rfl, rfl, ⟨j + 1, _, b9, c9, sp9, ms.length - 1 - 1 - j⟩, ⟨hK.keep hR (by (try simp only [decide_eq_true_eq, decide_eq_false_iff_not, beq_iff_eq, beq_eq_false_iff_ne, bne_iff_ne, bne_eq_false_iff_eq, ne_eq] at *); omega) (fun _ => h2), hz9, hl9, hx9⟩, rfl, fun _ h => h⟩
    · refine d_pass rfl rfl rfl ?_
      refine d_pass rfl rfl rfl ?_
      refine d_pass rfl rfl rfl ?_
      refine d_pass rfl rfl rfl ?_
      refine d_pass rfl rfl rfl ?_
      refine d_pass rfl rfl rfl ?_
      refine d_pass rfl rfl rfl ?_
      refine d_pass rfl rfl rfl ?_
      refine d_pass rfl rfl rfl ?_
      refine d_pass rfl rfl rfl ?_
      refine d_pass rfl rfl rfl ?_
      refine d_pass rfl rfl rfl ?_
      refine d_pass rfl rfl rfl ?_
      refine d_pass rfl rfl rfl ?_
      refine d_pass rfl rfl rfl ?_
      refine d_pass rfl rfl rfl ?_
      refine d_light rfl rfl rfl rfl rfl ?_
      refine d_nil ?_
      refine c_false rfl ?_
      refine c_skip ?_
      refine c_region ?_
      refine l_x (x_load rfl rfl (at_own (by repeat (first | exact .head _ | refine .tail _ ?_ | refine List.mem_append_right _ ?_)) (by rfl))) rfl rfl ?_
      rintro _ _ ⟨rfl, rfl⟩
      refine l_x (x_loadA rfl rfl rfl (row_own (by repeat (first | exact .head _ | refine .tail _ ?_ | refine List.mem_append_right _ ?_)))) rfl rfl ?_
      rintro _ _ ⟨rfl, rfl⟩
      refine l_x (x_slc rfl rfl rfl rfl rfl rfl) rfl rfl ?_
      rintro _ _ ⟨b70, rfl, rfl⟩
      refine l_x (x_append (A := [_, _, _, _, _, _, _, _, _]) (G := [(bK, blk (flat cm K ++ spK) 56)]) (R := []) (v := .slice (some ⟨bK, 0, none⟩) K.length cK) (n := K.length) (m := 1) (T := 56) (s := 2) (by_ := 32) (ys := cm (ms.getD (ms.length - 1 - 1 - j) m0)) rfl rfl rfl rfl (vec_marks hsz9 hcl9 hmx9) (fun w hw => .row _ _ _ _ _ rfl (row_own (.head _) w hw)) rfl (by have := hK.small; omega) (by have := hK.small; omega)) rfl rfl ?_
      rintro v71 _ ⟨G', hV', hnil, rfl⟩
      obtain ⟨b9, c9, sp9, rfl, rfl, hz9, hl9, hx9⟩ := vec_some hV' (by omega)
      rw [show flat cm K ++ _ = flat cm (K ++ [ms.getD (ms.length - 1 - 1 - j) m0]) from (flat_snoc _ _).symm] at hz9 ⊢
      rw [show K.length + 1 = (K ++ [ms.getD (ms.length - 1 - 1 - j) m0]).length by simp] at hl9 ⊢
      refine l_x (x_store 6 rfl rfl rfl rfl rfl rfl (by simp)) rfl rfl ?_
      rintro _ _ ⟨rfl, rfl⟩
      refine l_nil ?_
      exact ⟨_, fun _ h => St.pick [2, 4, 5, 6, 7, 8, 9, 0] h rfl, rfl, ⟨j + 1, _, b9, c9, sp9, ms.length - 1 - 1 - j⟩, ⟨hK.keep hR (by (try simp only [decide_eq_true_eq, decide_eq_false_iff_not, beq_iff_eq, beq_eq_false_iff_ne, bne_iff_ne, bne_eq_false_iff_eq, ne_eq] at *); omega) (fun _ => absurd h1 (by (try simp only [decide_eq_true_eq, decide_eq_false_iff_not, beq_iff_eq, beq_eq_false_iff_ne, bne_iff_ne, bne_eq_false_iff_eq, ne_eq] at *); omega)), hz9, hl9, hx9⟩, rfl, fun _ h => h⟩
  · rintro _ _ ⟨rfl, ⟨j, K, bK, cK, spK, q⟩, ⟨hK, hsz9, hcl9, hmx9⟩, hj, rfl⟩
    dsimp only [bwH, thinHs] at hK hsz9 hcl9 hmx9 hj ⊢
    refine ⟨rec, _, fun _ h => h.perm ((List.perm_append_singleton _ _).cons _), by rw [hrec.ready]; simp, hrec.calm, ?_⟩
    refine t_last rfl ?_
    refine c_seq ?_
    refine c_region ?_
    refine l_x (x_load rfl rfl (at_own (by repeat (first | exact .head _ | refine .tail _ ?_ | refine List.mem_append_right _ ?_)) (by rfl))) rfl rfl ?_
    rintro _ _ ⟨rfl, rfl⟩
    refine l_heap (fun _ h => St.pick [8, 0, 1, 2, 3, 4, 5, 6, 7] h rfl) ?_
    refine l_x (x_callF (A := [_]) [bK] call_27 rfl (by simp) (fun w hw => reverse_fn bK cK K spK (by have := hK.small; (try simp only [decide_eq_true_eq, decide_eq_false_iff_not, beq_iff_eq, beq_eq_false_iff_ne, bne_iff_ne, bne_eq_false_iff_eq, ne_eq] at *); omega) w (hw.holds _ (.head _)))) rfl rfl ?_
    rintro _ _ ⟨G73, ⟨rfl, rfl⟩, rfl⟩
    refine l_nil ?_
    refine c_region ?_
    refine l_x (x_load rfl rfl (at_own (by repeat (first | exact .head _ | refine .tail _ ?_ | refine List.mem_append_right _ ?_)) (by rfl))) rfl rfl ?_
    rintro _ _ ⟨rfl, rfl⟩
    refine l_x (x_load rfl rfl (at_own (by repeat (first | exact .head _ | refine .tail _ ?_ | refine List.mem_append_right _ ?_)) (by rfl))) rfl rfl ?_
    rintro _ _ ⟨rfl, rfl⟩
    refine l_l rfl rfl rfl ?_
    refine l_l (light_fa rfl rfl) rfl rfl ?_
    refine l_x (x_store 8 rfl rfl rfl rfl rfl rfl (by simp)) rfl rfl ?_
    rintro _ _ ⟨rfl, rfl⟩
    refine l_nil ?_
    exact ⟨_, fun _ h => St.pick [2, 8, 0] h rfl, l_end (fun _ _ => rets_none) (List.Sublist.refl _) ⟨rfl, _, _, rfl, by rw [hK.done (by omega)]; have := vec_marks (b := bK) (cap := cK) (ms := K.reverse) (sp := spK) (by simpa [flat_len cm_len] using hsz9) (by simpa using hcl9) hmx9; simpa using this⟩⟩

theorem delete_fn (b c j : Nat) (ms : List Mark) (sp : List Value) (hlen : ms.length < 1000000000) (hc : ms.length ≤ c) (hsz : (flat cm ms ++ sp).length = c * 2) (h2 : 2 ≤ j) (hj : j ≤ ms.length) (w : World) (hb : w.heap[b]? = some (blk (flat cm ms ++ sp) 56)) :
    Does Try.prog 22 [.slice (some ⟨b, 0, none⟩) ms.length c, .int .i64 1, .int .i64 j] w [b] (fun v H => v = .slice (some ⟨b, 0, none⟩) (1 + (ms.length - j)) c ∧ ∃ sp', (flat cm (ms.take 1 ++ ms.drop j) ++ sp').length = c * 2 ∧ H = [(b, blk (flat cm (ms.take 1 ++ ms.drop j) ++ sp') 56)]) := by
  refine does_of Try.func22 rfl rfl rfl (St.lent1 hb) ?_
  refine c_seq ?_
  refine c_region ?_
  refine l_l rfl rfl rfl ?_
  refine l_nil ?_
  refine c_seq ?_
  refine c_region ?_
  refine l_l rfl rfl rfl ?_
  refine l_l rfl rfl rfl ?_
  refine l_l rfl rfl rfl ?_
  refine l_l rfl rfl rfl ?_
  refine l_l (by first | exact light_len rfl rfl | exact light_lens rfl rfl | rfl) rfl rfl ?_
  refine l_l (cut3_slice (s := 2) 1 j ms.length rfl rfl rfl rfl rfl rfl rfl rfl (by omega) hj hc) rfl rfl ?_
  refine l_nil ?_
  refine c_seq ?_
  refine c_seq ?_
  refine c_region ?_
  refine l_l rfl rfl rfl ?_
  refine l_l rfl rfl rfl ?_
  refine l_sure false rfl rfl rfl (by simp; omega) ?_
  refine l_nil ?_
  refine c_false rfl ?_
  refine c_skip ?_
  refine c_seq ?_
  refine c_region ?_
  refine l_l rfl rfl rfl ?_
  refine l_l (by first | exact light_len rfl rfl | exact light_lens rfl rfl | rfl) rfl rfl ?_
  refine l_l rfl rfl rfl ?_
  refine l_nil ?_
  refine c_seq ?_
  refine c_draw _ [] (.step true 0 (.step true 1 (.step true 2 (.step true 3 (.step true 4 (.step true 5 (.step false 6 (.step true 7 .done)))))))) rfl (by kernel_rfl) (by kernel_rfl) (fun _ h => h) ?_
  refine d_light rfl rfl rfl rfl rfl ?_
  refine d_light rfl rfl rfl rfl rfl ?_
  refine d_as (v := (.slice (some ⟨b, 0, none⟩) 1 c)) rfl (cut_slice (s := 2) 0 1 rfl rfl rfl rfl rfl rfl (by omega) (by omega)) rfl rfl rfl cut0 ?_
  refine d_light rfl rfl rfl rfl rfl ?_
  refine d_light rfl rfl rfl rfl rfl ?_
  refine d_light rfl (cut_slice (s := 2) j ms.length rfl rfl rfl rfl rfl rfl hj hc) rfl rfl rfl ?_
  refine d_x rfl (x_appendR (n := 1) (m := ms.length - j) (T := 56) (s := 2) (by_ := 32) (ys := flat cm (ms.drop j)) 0 rfl rfl rfl rfl rfl (fun w hw => .row _ _ _ _ _ (by rw [flat_len cm_len, List.length_drop]) (src_drop (row_own (.head _) w hw) hj hc)) (ones_flat _) (by omega) (del_fits ms sp hj (by omega))) rfl rfl (by intro h; cases h) ?_
  rintro _ _ ⟨rfl, rfl⟩
  refine d_light rfl rfl rfl rfl rfl ?_
  refine d_nil ?_
  refine c_seq ?_
  refine c_region ?_
  refine l_l rfl rfl rfl ?_
  refine l_l rfl rfl rfl ?_
  refine l_l (by first | exact light_len rfl rfl | exact light_lens rfl rfl | rfl) rfl rfl ?_
  refine l_l rfl rfl rfl ?_
  refine l_as (v := (.slice (some ⟨b, (1 + (ms.length - j)) * 2, none⟩) (j - 1) (c - (1 + (ms.length - j))))) (cut_slice (s := 2) (1 + (ms.length - j)) ms.length rfl rfl rfl rfl rfl rfl (by omega) hc) rfl rfl (cut_on (by omega) (by omega) rfl) ?_
  refine l_x (x_clear (s := 2) (z := [.int .u64 0, .slice none 0 0]) 0 rfl rfl rfl rfl rfl rfl rfl (by omega) (by rw [putL_len (del_fits ms sp hj (by omega)), hsz]; simp only [List.length_cons, List.length_nil]; omega)) rfl rfl ?_
  rintro _ _ ⟨rfl, rfl⟩
  refine l_nil ?_
  refine c_seq ?_
  refine c_region ?_
  refine l_l rfl rfl rfl ?_
  refine l_l rfl rfl rfl ?_
  refine l_nil ?_
  refine c_ret ?_
  obtain ⟨sp', hsp⟩ := del_law ms sp (repL ((j - 1) * 2) [.int .u64 0, .slice none 0 0]) (j := j) (by omega) hj
  refine l_end (fun _ _ => rets_v rfl) (List.Sublist.refl _) ⟨rfl, sp', ?_, by rw [← hsp]; rfl⟩
  rw [← hsp, putL_len (by rw [putL_len (del_fits ms sp hj (by omega)), hsz, repL_len]; omega), putL_len (del_fits ms sp hj (by omega)), hsz]

end Go.Proofs.Ytkifhldkhemdlaa
