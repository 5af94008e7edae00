/- The contract of the law of calls that return, each behind those that it made. -/
import Derived.Test.YtmafgccagaihbaaAwake
import Derived.Test.YtmafgccagaihbaaNoted
import Derived.Test.YtmafgccagaihbaaCalls
namespace Go.Proofs.Ytmafgccagaihbaa
open Go Go.VV Go.Proofs
set_option linter.unusedSimpArgs false
set_option linter.unusedVariables false
set_option maxRecDepth 100000
def cB (b : Bool) : List Value := [.bool b]
theorem cB_len (b : Bool) : (cB b).length = 1 := rfl
theorem cB_of (cs : List Value) (h : Cks [.bool] cs) : ∃ x, cs = cB x ∧ True := by
  obtain ⟨b, _, rfl, h1⟩ := ck_b h
  obtain rfl := ck_0 h1
  exact ⟨b, rfl, trivial⟩

set_option maxHeartbeats 4000000 in
theorem balance_fn (a : Option Addr) (c : Nat) (l : List Stp) (hok : ∀ s ∈ l, StpOk s) (a2 : Option Addr) (c2 : Nat) (ups : List Bool) (keep : Int) (w : World) (hE : Els w cS a l) (hU : Els w cB a2 ups) :
    Does Try.prog 4 [.slice a l.length c, .slice a2 ups.length c2, .int .i64 keep] w [] (fun v H => H = [] ∧ v = .bool true) := by
  refine does_of Try.func4 rfl rfl rfl (St.refl w) ?_
  refine c_seq ?_
  refine c_region ?_
  refine l_l rfl rfl rfl ?_
  refine l_nil ?_
  refine c_seq ?_
  refine c_seq ?_
  refine c_region ?_
  refine l_x (x_val call_9 rfl (fun w hw => awake_fn w)) rfl rfl ?_
  rintro _ _ ⟨rfl, rfl⟩
  refine l_sure false rfl rfl rfl rfl ?_
  refine l_l rfl rfl rfl ?_
  refine l_l rfl rfl rfl ?_
  refine l_l (by first | exact light_len rfl rfl | exact light_lens rfl rfl | rfl) rfl rfl ?_
  refine l_l rfl rfl rfl ?_
  refine l_l rfl rfl rfl ?_
  refine l_b rfl rfl rfl (fun h1 => ?_) (fun h1 => ?_)
  · try subst h1
    refine l_p rfl rfl ?_
    refine l_p rfl rfl ?_
    refine l_p rfl rfl ?_
    refine l_l rfl rfl rfl ?_
    refine l_nil ?_
    refine c_true rfl ?_
    refine c_seq ?_
    refine c_region ?_
    refine l_x (x_val call_9 rfl (fun w hw => awake_fn w)) rfl rfl ?_
    rintro _ _ ⟨rfl, rfl⟩
    refine l_l rfl rfl rfl ?_
    refine l_nil ?_
    refine c_ret ?_
    exact l_end0 (fun _ _ => rets_v rfl) ⟨rfl, rfl⟩
  · try subst h1
    refine l_l rfl rfl rfl ?_
    refine l_l (by first | exact light_len rfl rfl | exact light_lens rfl rfl | rfl) rfl rfl ?_
    refine l_l rfl rfl rfl ?_
    refine l_l rfl rfl rfl ?_
    refine l_nil ?_
    refine c_cond rfl (fun h2 => ?_) (fun h2 => ?_)
    · try subst h2
      refine c_seq ?_
      refine c_region ?_
      refine l_x (x_val call_9 rfl (fun w hw => awake_fn w)) rfl rfl ?_
      rintro _ _ ⟨rfl, rfl⟩
      refine l_l rfl rfl rfl ?_
      refine l_nil ?_
      refine c_ret ?_
      exact l_end0 (fun _ _ => rets_v rfl) ⟨rfl, rfl⟩
    · try subst h2
      refine c_skip ?_
      refine c_seq ?_
      have hl60 : l.length ≤ 60 := by (try simp only [decide_eq_true_eq, decide_eq_false_iff_not, beq_iff_eq, beq_eq_false_iff_ne, bne_iff_ne, bne_eq_false_iff_eq, ne_eq] at *); omega
      have hu100 : ups.length ≤ 100 := by (try simp only [decide_eq_true_eq, decide_eq_false_iff_not, beq_iff_eq, beq_eq_false_iff_ne, bne_iff_ne, bne_eq_false_iff_eq, ne_eq] at *); omega
      refine c_region ?_
      refine l_l rfl rfl rfl ?_
      refine l_l rfl rfl rfl ?_
      refine l_x (x_call call_13 rfl (fun w hw => noted_fn a c l hok (by (try simp only [decide_eq_true_eq, decide_eq_false_iff_not, beq_iff_eq, beq_eq_false_iff_ne, bne_iff_ne, bne_eq_false_iff_eq, ne_eq] at *); omega) keep w (hE.later0 hw))) rfl rfl ?_
      rintro _ _ ⟨G5, ⟨b5, ring5, rfl, hH5, _⟩, rfl⟩
      refine l_x (x_alloc rfl) rfl rfl ?_
      rintro _ _ ⟨b7, rfl, rfl⟩
      refine l_x (by first | exact x_store 0 rfl rfl rfl rfl rfl rfl (by first | rfl | exact Nat.le_of_ble_eq_true rfl | (simp; done)) | exact x_store 1 rfl rfl rfl rfl rfl rfl (by first | rfl | exact Nat.le_of_ble_eq_true rfl | (simp; done)) | exact x_store 2 rfl rfl rfl rfl rfl rfl (by first | rfl | exact Nat.le_of_ble_eq_true rfl | (simp; done)) | exact x_store 3 rfl rfl rfl rfl rfl rfl (by first | rfl | exact Nat.le_of_ble_eq_true rfl | (simp; done))) rfl rfl ?_
      rintro _ _ ⟨rfl, rfl⟩
      refine l_nil ?_
      refine c_seq ?_
      refine c_heap (L' := [(b7, blk [.pointer (some ⟨b5, 0, none⟩)] 24)] ++ G5) (fun _ h => h.as (by simp [putL])) ?_
      refine c_region ?_
      refine l_x (x_load rfl rfl (at_own (by repeat (first | exact .head _ | refine .tail _ ?_ | refine List.mem_append_right _ ?_)) (by rfl))) rfl rfl ?_
      rintro _ _ ⟨rfl, rfl⟩
      refine l_x (x_call call_12 rfl (fun w hw => calls_fn b5 _ _ _ _ (by have := callsL_len l; omega) w (hH5.histW hw (fun x hx => by simp only [List.mem_append, List.mem_cons]; simp only [hx, true_or, or_true])))) rfl rfl ?_
      rintro v31 _ ⟨G31, hV31, rfl⟩
      obtain ⟨a31, c31, rfl, _, hc31, hr31⟩ := hV31.rows cC_len (by decide)
      have hcl := callsL_le l
      generalize callsL l = cs at *
      refine l_l rfl rfl rfl ?_
      refine l_nil ?_
      refine c_seq ?_
      refine c_heap (L' := G5 ++ (G31 ++ [(b7, blk [.pointer (some ⟨b5, 0, none⟩)] 24)])) (fun _ h => St.fl [G31, [_], G5] [2, 0, 1] rfl h) ?_
      refine c_region ?_
      refine l_l rfl rfl rfl ?_
      refine l_nil ?_
      refine c_seq ?_
      refine c_region ?_
      refine l_as (v := (.func (.func 14) #[] #[.pointer (some ⟨b7, 0, none⟩)])) rfl rfl rfl (by simp only [List.map_toArray, List.map_cons, List.map_nil]; rfl) ?_
      refine l_l rfl rfl rfl ?_
      refine l_nil ?_
      refine c_seq ?_
      refine c_seq ?_
      refine c_region ?_
      refine l_l rfl rfl rfl ?_
      refine l_l (by first | exact light_len rfl rfl | exact light_lens rfl rfl | rfl) rfl rfl ?_
      refine l_l rfl rfl rfl ?_
      refine l_nil ?_
      refine c_block ?_
      refine c_loop (σ := Nat × Nat × List Rcd × Heap × Nat) [6, 9, 11, 35, 36, 37, 38, 39, 40, 41, 42, 43, 44, 45, 46, 47, 48, 49, 50, 51, 52, 53, 54, 55, 56, 57, 58, 59, 60] (fun s => [(9, .int .i64 s.2.1), (35, .int .i64 s.1)]) (fun s => s.2.2.2.1 ++ (G31 ++ [(b7, blk [.pointer (some ⟨b5, 0, none⟩)] 24)])) (fun s => s.1 ≤ ups.length ∧ s.2.1 ≤ s.1 ∧ s.2.2.2.2 ≤ l.length + s.1 ∧ HistH b5 (kp keep) s.2.2.2.2 (deepC cs s.2.1) s.2.2.1 s.2.2.2.1) (fun s => ups.length - s.1) (0, 0, ring5, G5, l.length) ?_ ?_ ?_ ?_
      · exact ⟨Nat.zero_le _, Nat.le_refl _, Nat.le_refl _, by rw [deep_zero]; exact hH5⟩
      · exact .cons rfl (.cons rfl .nil)
      · exact fun _ h => h
      · rintro ⟨i, d, ring, G, m⟩ y8 ⟨hi, hd, hm, hH⟩
        dsimp only at hi hd hm hH ⊢
        refine c_seq ?_
        refine c_region ?_
        refine l_l rfl rfl rfl ?_
        refine l_nil ?_
        refine c_seq ?_
        refine c_cond rfl (fun h3 => ?_) (fun h3 => ?_)
        · try subst h3
          refine c_skip ?_
          refine c_seq ?_
          refine c_block ?_
          refine c_seq ?_
          refine c_region ?_
          refine l_l rfl rfl rfl ?_
          refine l_l rfl rfl rfl ?_
          refine l_nil ?_
          refine c_seq ?_
          refine c_seq ?_
          obtain ⟨bu, ou, rfl, hru⟩ := hU.row (i := i) (by (try simp only [decide_eq_true_eq, decide_eq_false_iff_not, beq_iff_eq, beq_eq_false_iff_ne, bne_iff_ne, bne_eq_false_iff_eq, ne_eq] at *); omega)
          obtain ⟨u, hgu⟩ : ∃ u, ups[i]? = some u := ⟨_, get_some (by (try simp only [decide_eq_true_eq, decide_eq_false_iff_not, beq_iff_eq, beq_eq_false_iff_ne, bne_iff_ne, bne_eq_false_iff_eq, ne_eq] at *); omega)⟩
          refine c_region ?_
          refine l_l rfl rfl rfl ?_
          refine l_l rfl rfl rfl ?_
          refine l_l (idx_slice (s := 1) i rfl rfl rfl rfl (by (try simp only [decide_eq_true_eq, decide_eq_false_iff_not, beq_iff_eq, beq_eq_false_iff_ne, bne_iff_ne, bne_eq_false_iff_eq, ne_eq] at *); omega)) rfl rfl ?_
          refine l_x (x_load rfl rfl (fun w hw => (row_old hru (by simp) w hw).at cB_len hgu 0 rfl)) rfl rfl ?_
          rintro _ _ ⟨rfl, rfl⟩
          refine l_nil ?_
          refine c_cond rfl (fun h4 => ?_) (fun h4 => ?_)
          · try subst h4
            refine c_seq ?_
            refine c_region ?_
            refine l_l rfl rfl rfl ?_
            refine l_as (v := (.int .i64 ((d + 1 : Nat) : Int))) rfl rfl rfl (congrArg _ (succ_law (by omega))) ?_
            refine l_l rfl rfl rfl ?_
            refine l_nil ?_
            refine c_region ?_
            refine l_l rfl rfl rfl ?_
            refine l_x (x_callVF (F := G) (G := (G31 ++ [(b7, blk [.pointer (some ⟨b5, 0, none⟩)] 24)])) (A := []) (B := [.pointer (some ⟨b7, 0, none⟩)]) (G.map (·.1)) rfl call_14 rfl (fun _ hb => mem_fst hb) (fun w hw => clos_fn b5 (kp keep) m _ ring (kp_ok keep).1 (kp_ok keep).2 (by omega) (by rw [deepC_len]; omega) G w hH (St.lentV hw) true b7 (at_own (by repeat (first | exact .head _ | refine .tail _ ?_ | refine List.mem_append_right _ ?_)) rfl w hw) (hw.apart (o := blk [.pointer (some ⟨b5, 0, none⟩)] 24) (by repeat (first | exact .head _ | refine .tail _ ?_ | refine List.mem_append_right _ ?_))))) rfl rfl ?_
            rintro _ _ ⟨G', ⟨rfl, hH'⟩, rfl⟩
            rw [deep_up (by omega)] at hH'
            refine l_nil ?_
            refine c_seq ?_
            refine c_region ?_
            refine l_x (x_load rfl rfl (at_own (by repeat (first | exact .head _ | refine .tail _ ?_ | refine List.mem_append_right _ ?_)) (by rfl))) rfl rfl ?_
            rintro _ _ ⟨rfl, rfl⟩
            refine l_x (x_call call_12 rfl (fun w hw => calls_fn b5 _ _ _ _ (by rw [deepC_len]; omega) w (hH'.histW hw (fun x hx => by simp only [List.mem_append, List.mem_cons]; simp only [hx, true_or, or_true])))) rfl rfl ?_
            rintro v53 _ ⟨G53, hV53, rfl⟩
            obtain ⟨a53, c53, rfl, _, _, _⟩ := hV53.rows cC_len (by decide)
            refine l_l (by first | exact light_len rfl rfl | exact light_lens rfl rfl | rfl) rfl rfl ?_
            refine l_l rfl rfl rfl ?_
            refine l_l (by first | exact light_len rfl rfl | exact light_lens rfl rfl | rfl) rfl rfl ?_
            refine l_l rfl rfl rfl ?_
            refine l_as (v := (.int .i64 ((cs.length + (d + 1) : Nat) : Int))) rfl rfl rfl (congrArg _ (by rw [wrap_i64 (by omega) (by omega)]; omega)) ?_
            refine l_sure false rfl rfl rfl (by rw [deepC_len]; simp) ?_
            refine l_nil ?_
            refine c_false rfl ?_
            refine c_skip ?_
            refine c_region ?_
            refine l_as (v := (.int .i64 ((i + 1 : Nat) : Int))) rfl rfl rfl (congrArg _ (succ_law (by omega))) ?_
            refine l_l rfl rfl rfl ?_
            refine l_nil ?_
            exact ⟨(i + 1, d + 1, _, G', m + 1), ⟨by (try simp only [decide_eq_true_eq, decide_eq_false_iff_not, beq_iff_eq, beq_eq_false_iff_ne, bne_iff_ne, bne_eq_false_iff_eq, ne_eq] at *); omega, by dsimp only; omega, by dsimp only; omega, hH'⟩, by (try simp only [decide_eq_true_eq, decide_eq_false_iff_not, beq_iff_eq, beq_eq_false_iff_ne, bne_iff_ne, bne_eq_false_iff_eq, ne_eq] at *); omega, .cons rfl (.cons rfl .nil), (by repeat (first | exact Agree.refl _ _ | exact Agree.mix rfl | refine Agree.put rfl ?_ | refine Agree.keep rfl ?_)), fun _ h => h.sub (List.sublist_append_right _ _)⟩
          · try subst h4
            refine c_seq ?_
            refine c_region ?_
            refine l_l rfl rfl rfl ?_
            refine l_l rfl rfl rfl ?_
            refine l_nil ?_
            refine c_cond rfl (fun h5 => ?_) (fun h5 => ?_)
            · try subst h5
              refine c_seq ?_
              obtain ⟨e, rfl⟩ : ∃ e, d = e + 1 := ⟨d - 1, by (try simp only [decide_eq_true_eq, decide_eq_false_iff_not, beq_iff_eq, beq_eq_false_iff_ne, bne_iff_ne, bne_eq_false_iff_eq, ne_eq] at *); omega⟩
              refine c_region ?_
              refine l_l rfl rfl rfl ?_
              refine l_as (v := (.int .i64 ((e : Nat) : Int))) rfl rfl rfl (congrArg _ (by rw [wrap_i64 (by omega) (by omega)]; omega)) ?_
              refine l_l rfl rfl rfl ?_
              refine l_nil ?_
              refine c_region ?_
              refine l_l rfl rfl rfl ?_
              refine l_x (x_callVF (F := G) (G := (G31 ++ [(b7, blk [.pointer (some ⟨b5, 0, none⟩)] 24)])) (A := []) (B := [.pointer (some ⟨b7, 0, none⟩)]) (G.map (·.1)) rfl call_14 rfl (fun _ hb => mem_fst hb) (fun w hw => clos_fn b5 (kp keep) m _ ring (kp_ok keep).1 (kp_ok keep).2 (by omega) (by rw [deepC_len]; omega) G w hH (St.lentV hw) false b7 (at_own (by repeat (first | exact .head _ | refine .tail _ ?_ | refine List.mem_append_right _ ?_)) rfl w hw) (hw.apart (o := blk [.pointer (some ⟨b5, 0, none⟩)] 24) (by repeat (first | exact .head _ | refine .tail _ ?_ | refine List.mem_append_right _ ?_))))) rfl rfl ?_
              rintro _ _ ⟨G', ⟨rfl, hH'⟩, rfl⟩
              rw [deep_down] at hH'
              refine l_nil ?_
              refine c_seq ?_
              refine c_region ?_
              refine l_x (x_load rfl rfl (at_own (by repeat (first | exact .head _ | refine .tail _ ?_ | refine List.mem_append_right _ ?_)) (by rfl))) rfl rfl ?_
              rintro _ _ ⟨rfl, rfl⟩
              refine l_x (x_call call_12 rfl (fun w hw => calls_fn b5 _ _ _ _ (by rw [deepC_len]; omega) w (hH'.histW hw (fun x hx => by simp only [List.mem_append, List.mem_cons]; simp only [hx, true_or, or_true])))) rfl rfl ?_
              rintro v53 _ ⟨G53, hV53, rfl⟩
              obtain ⟨a53, c53, rfl, _, _, _⟩ := hV53.rows cC_len (by decide)
              refine l_l (by first | exact light_len rfl rfl | exact light_lens rfl rfl | rfl) rfl rfl ?_
              refine l_l rfl rfl rfl ?_
              refine l_l (by first | exact light_len rfl rfl | exact light_lens rfl rfl | rfl) rfl rfl ?_
              refine l_l rfl rfl rfl ?_
              refine l_as (v := (.int .i64 ((cs.length + e : Nat) : Int))) rfl rfl rfl (congrArg _ (by rw [wrap_i64 (by omega) (by omega)]; omega)) ?_
              refine l_sure false rfl rfl rfl (by rw [deepC_len]; simp) ?_
              refine l_nil ?_
              refine c_false rfl ?_
              refine c_skip ?_
              refine c_region ?_
              refine l_as (v := (.int .i64 ((i + 1 : Nat) : Int))) rfl rfl rfl (congrArg _ (succ_law (by omega))) ?_
              refine l_l rfl rfl rfl ?_
              refine l_nil ?_
              exact ⟨(i + 1, e, _, G', m + 1), ⟨by (try simp only [decide_eq_true_eq, decide_eq_false_iff_not, beq_iff_eq, beq_eq_false_iff_ne, bne_iff_ne, bne_eq_false_iff_eq, ne_eq] at *); omega, by dsimp only; omega, by dsimp only; omega, hH'⟩, by (try simp only [decide_eq_true_eq, decide_eq_false_iff_not, beq_iff_eq, beq_eq_false_iff_ne, bne_iff_ne, bne_eq_false_iff_eq, ne_eq] at *); omega, .cons rfl (.cons rfl .nil), (by repeat (first | exact Agree.refl _ _ | exact Agree.mix rfl | refine Agree.put rfl ?_ | refine Agree.keep rfl ?_)), fun _ h => h.sub (List.sublist_append_right _ _)⟩
            · try subst h5
              refine c_skip ?_
              refine c_seq ?_
              refine c_region ?_
              refine l_x (x_load rfl rfl (at_own (by repeat (first | exact .head _ | refine .tail _ ?_ | refine List.mem_append_right _ ?_)) (by rfl))) rfl rfl ?_
              rintro _ _ ⟨rfl, rfl⟩
              refine l_x (x_call call_12 rfl (fun w hw => calls_fn b5 _ _ _ _ (by rw [deepC_len]; omega) w (hH.histW hw (fun x hx => by simp only [List.mem_append, List.mem_cons]; simp only [hx, true_or, or_true])))) rfl rfl ?_
              rintro v53 _ ⟨G53, hV53, rfl⟩
              obtain ⟨a53, c53, rfl, _, _, _⟩ := hV53.rows cC_len (by decide)
              refine l_l (by first | exact light_len rfl rfl | exact light_lens rfl rfl | rfl) rfl rfl ?_
              refine l_l rfl rfl rfl ?_
              refine l_l (by first | exact light_len rfl rfl | exact light_lens rfl rfl | rfl) rfl rfl ?_
              refine l_l rfl rfl rfl ?_
              refine l_as (v := (.int .i64 ((cs.length + d : Nat) : Int))) rfl rfl rfl (congrArg _ (by rw [wrap_i64 (by omega) (by omega)]; omega)) ?_
              refine l_sure false rfl rfl rfl (by rw [deepC_len]; simp) ?_
              refine l_nil ?_
              refine c_false rfl ?_
              refine c_skip ?_
              refine c_region ?_
              refine l_as (v := (.int .i64 ((i + 1 : Nat) : Int))) rfl rfl rfl (congrArg _ (succ_law (by omega))) ?_
              refine l_l rfl rfl rfl ?_
              refine l_nil ?_
              exact ⟨(i + 1, d, ring, G, m), ⟨by (try simp only [decide_eq_true_eq, decide_eq_false_iff_not, beq_iff_eq, beq_eq_false_iff_ne, bne_iff_ne, bne_eq_false_iff_eq, ne_eq] at *); omega, by dsimp only; omega, by dsimp only; omega, hH⟩, by (try simp only [decide_eq_true_eq, decide_eq_false_iff_not, beq_iff_eq, beq_eq_false_iff_ne, bne_iff_ne, bne_eq_false_iff_eq, ne_eq] at *); omega, .cons rfl (.cons rfl .nil), (by repeat (first | exact Agree.refl _ _ | exact Agree.mix rfl | refine Agree.put rfl ?_ | refine Agree.keep rfl ?_)), fun _ h => h.sub (List.sublist_append_right _ _)⟩
        · try subst h3
          refine c_exit rfl ?_
          refine c_seq ?_
          refine c_seq ?_
          refine c_region ?_
          refine l_l rfl rfl rfl ?_
          refine l_l rfl rfl rfl ?_
          refine l_nil ?_
          refine c_block ?_
          refine c_loop (σ := Nat × List Rcd × Heap × Nat) [62, 63, 64, 65, 66] (fun s => [(62, .int .i64 s.1)]) (fun s => s.2.2.1 ++ (G31 ++ [(b7, blk [.pointer (some ⟨b5, 0, none⟩)] 24)])) (fun s => s.1 ≤ d ∧ s.2.2.2 ≤ l.length + 100 + s.1 ∧ HistH b5 (kp keep) s.2.2.2 (deepC cs (d - s.1)) s.2.1 s.2.2.1) (fun s => d - s.1) (0, ring, G, m) ?_ ?_ ?_ ?_
          · exact ⟨Nat.zero_le _, by dsimp only; omega, hH⟩
          · exact .cons rfl .nil
          · exact fun _ h => h
          · rintro ⟨q, ring, G, m⟩ y20 ⟨hq, hm, hH⟩
            dsimp only at hq hm hH ⊢
            refine c_seq ?_
            refine c_region ?_
            refine l_l rfl rfl rfl ?_
            refine l_nil ?_
            refine c_seq ?_
            refine c_cond rfl (fun h6 => ?_) (fun h6 => ?_)
            · try subst h6
              refine c_skip ?_
              refine c_seq ?_
              refine c_block ?_
              obtain ⟨e, he⟩ : ∃ e, d - q = e + 1 := ⟨d - q - 1, by (try simp only [decide_eq_true_eq, decide_eq_false_iff_not, beq_iff_eq, beq_eq_false_iff_ne, bne_iff_ne, bne_eq_false_iff_eq, ne_eq] at *); omega⟩
              rw [he] at hH
              refine c_region ?_
              refine l_l rfl rfl rfl ?_
              refine l_x (x_callVF (F := G) (G := (G31 ++ [(b7, blk [.pointer (some ⟨b5, 0, none⟩)] 24)])) (A := []) (B := [.pointer (some ⟨b7, 0, none⟩)]) (G.map (·.1)) rfl call_14 rfl (fun _ hb => mem_fst hb) (fun w hw => clos_fn b5 (kp keep) m _ ring (kp_ok keep).1 (kp_ok keep).2 (by omega) (by rw [deepC_len]; omega) G w hH (St.lentV hw) false b7 (at_own (by repeat (first | exact .head _ | refine .tail _ ?_ | refine List.mem_append_right _ ?_)) rfl w hw) (hw.apart (o := blk [.pointer (some ⟨b5, 0, none⟩)] 24) (by repeat (first | exact .head _ | refine .tail _ ?_ | refine List.mem_append_right _ ?_))))) rfl rfl ?_
              rintro _ _ ⟨G', ⟨rfl, hH'⟩, rfl⟩
              rw [deep_down] at hH'
              refine l_nil ?_
              refine c_region ?_
              refine l_as (v := (.int .i64 ((q + 1 : Nat) : Int))) rfl rfl rfl (congrArg _ (succ_law (by omega))) ?_
              refine l_l rfl rfl rfl ?_
              refine l_nil ?_
              exact ⟨(q + 1, _, G', m + 1), ⟨by (try simp only [decide_eq_true_eq, decide_eq_false_iff_not, beq_iff_eq, beq_eq_false_iff_ne, bne_iff_ne, bne_eq_false_iff_eq, ne_eq] at *); omega, by dsimp only; omega, by dsimp only; rw [show d - (q + 1) = e by omega]; exact hH'⟩, by (try simp only [decide_eq_true_eq, decide_eq_false_iff_not, beq_iff_eq, beq_eq_false_iff_ne, bne_iff_ne, bne_eq_false_iff_eq, ne_eq] at *); omega, .cons rfl .nil, (by repeat (first | exact Agree.refl _ _ | exact Agree.mix rfl | refine Agree.put rfl ?_ | refine Agree.keep rfl ?_)), fun _ h => h⟩
            · try subst h6
              refine c_exit rfl ?_
              refine c_seq ?_
              obtain rfl : q = d := by (try simp only [decide_eq_true_eq, decide_eq_false_iff_not, beq_iff_eq, beq_eq_false_iff_ne, bne_iff_ne, bne_eq_false_iff_eq, ne_eq] at *); omega
              refine c_region ?_
              refine l_x (x_load rfl rfl (at_own (by repeat (first | exact .head _ | refine .tail _ ?_ | refine List.mem_append_right _ ?_)) (by rfl))) rfl rfl ?_
              rintro _ _ ⟨rfl, rfl⟩
              refine l_x (x_call call_12 rfl (fun w hw => calls_fn b5 _ _ _ _ (by rw [deepC_len]; omega) w (hH.histW hw (fun x hx => by simp only [List.mem_append, List.mem_cons]; simp only [hx, true_or, or_true])))) rfl rfl ?_
              rintro v68 _ ⟨G68, hV68, rfl⟩
              rw [Nat.sub_self, deepC_len, deep_zero] at hV68
              obtain ⟨a68, c68, rfl, _, hc68, hr68⟩ := hV68.rows cC_len (by decide)
              refine l_l rfl rfl rfl ?_
              refine l_nil ?_
              refine c_seq ?_
              refine c_seq ?_
              refine c_region ?_
              refine l_l rfl rfl rfl ?_
              refine l_l (by first | exact light_len rfl rfl | exact light_lens rfl rfl | rfl) rfl rfl ?_
              refine l_l rfl rfl rfl ?_
              refine l_l (by first | exact light_len rfl rfl | exact light_lens rfl rfl | rfl) rfl rfl ?_
              refine l_sure false rfl rfl rfl (by simp) ?_
              refine l_nil ?_
              refine c_false rfl ?_
              refine c_skip ?_
              refine c_seq ?_
              refine c_seq ?_
              refine c_region ?_
              refine l_l rfl rfl rfl ?_
              refine l_l (by first | exact light_len rfl rfl | exact light_lens rfl rfl | rfl) rfl rfl ?_
              refine l_l rfl rfl rfl ?_
              refine l_nil ?_
              refine c_block ?_
              refine c_loopk (σ := Nat) [6, 13, 76, 77, 78, 79, 80, 81, 82, 83, 84, 85, 86, 87, 88] (fun p => [(76, .int .i64 p)]) (fun p => p ≤ cs.length) (fun p => cs.length - p) 0 ?_ ?_ ?_
              · exact Nat.zero_le _
              · exact .cons rfl .nil
              · intro p y27 hp
                refine c_seq ?_
                refine c_region ?_
                refine l_l rfl rfl rfl ?_
                refine l_nil ?_
                refine c_seq ?_
                refine c_cond rfl (fun h7 => ?_) (fun h7 => ?_)
                · try subst h7
                  refine c_skip ?_
                  refine c_seq ?_
                  refine c_block ?_
                  refine c_seq ?_
                  refine c_region ?_
                  refine l_l rfl rfl rfl ?_
                  refine l_l rfl rfl rfl ?_
                  refine l_nil ?_
                  refine c_seq ?_
                  obtain ⟨b9, rfl, hr9⟩ := hr68 (by (try simp only [decide_eq_true_eq, decide_eq_false_iff_not, beq_iff_eq, beq_eq_false_iff_ne, bne_iff_ne, bne_eq_false_iff_eq, ne_eq] at *); omega)
                  obtain ⟨b8, rfl, hr8⟩ := hr31 (by (try simp only [decide_eq_true_eq, decide_eq_false_iff_not, beq_iff_eq, beq_eq_false_iff_ne, bne_iff_ne, bne_eq_false_iff_eq, ne_eq] at *); omega)
                  obtain ⟨x, hgx⟩ : ∃ x, cs[p]? = some x := ⟨_, get_some (by (try simp only [decide_eq_true_eq, decide_eq_false_iff_not, beq_iff_eq, beq_eq_false_iff_ne, bne_iff_ne, bne_eq_false_iff_eq, ne_eq] at *); omega)⟩
                  refine c_draw _ [4, 5, 6, 7] (.step true 0 (.step true 1 (.step true 2 (.step true 3 (.step true 4 (.step true 5 (.step true 6 (.step true 7 (.step true 8 .done))))))))) rfl (by kernel_rfl) (by kernel_rfl) (fun _ h => h) ?_
                  refine d_light rfl rfl rfl rfl rfl ?_
                  refine d_light rfl rfl rfl rfl rfl ?_
                  refine d_light rfl (idx_slice (s := 5) p rfl rfl rfl rfl (by (try simp only [decide_eq_true_eq, decide_eq_false_iff_not, beq_iff_eq, beq_eq_false_iff_ne, bne_iff_ne, bne_eq_false_iff_eq, ne_eq] at *); omega)) rfl rfl rfl ?_
                  refine d_loadA rfl rfl rfl rfl (fun w hw => (hr9.srow (fun x hx => by simp only [List.mem_append, List.mem_cons]; simp only [hx, true_or, or_true]) w hw).nth' cC_len hgx) rfl rfl ?_
                  refine d_light rfl rfl rfl rfl rfl ?_
                  refine d_light rfl rfl rfl rfl rfl ?_
                  refine d_light rfl (idx_slice (s := 5) p rfl rfl rfl rfl (by (try simp only [decide_eq_true_eq, decide_eq_false_iff_not, beq_iff_eq, beq_eq_false_iff_ne, bne_iff_ne, bne_eq_false_iff_eq, ne_eq] at *); omega)) rfl rfl rfl ?_
                  refine d_loadA rfl rfl rfl rfl (fun w hw => (hr8.srow (fun x hx => by simp only [List.mem_append, List.mem_cons]; simp only [hx, true_or, or_true]) w hw).nth' cC_len hgx) rfl rfl ?_
                  refine d_nes (ks := [.int .i64, .int .i64, .int .u16, .int .u16, .int .u16]) rfl rfl rfl (by kernel_rfl) (by kernel_rfl) rfl rfl rfl rfl (b := false) (by simp [lveq, veq, cC]) ?_
                  refine d_nil ?_
                  refine c_false rfl ?_
                  refine c_skip ?_
                  refine c_region ?_
                  refine l_as (v := (.int .i64 ((p + 1 : Nat) : Int))) rfl rfl rfl (congrArg _ (succ_law (by omega))) ?_
                  refine l_l rfl rfl rfl ?_
                  refine l_nil ?_
                  exact ⟨p + 1, by (try simp only [decide_eq_true_eq, decide_eq_false_iff_not, beq_iff_eq, beq_eq_false_iff_ne, bne_iff_ne, bne_eq_false_iff_eq, ne_eq] at *); omega, by (try simp only [decide_eq_true_eq, decide_eq_false_iff_not, beq_iff_eq, beq_eq_false_iff_ne, bne_iff_ne, bne_eq_false_iff_eq, ne_eq] at *); omega, .cons rfl .nil, (by repeat (first | exact Agree.refl _ _ | exact Agree.mix rfl | refine Agree.put rfl ?_ | refine Agree.keep rfl ?_)), fun _ h => h⟩
                · try subst h7
                  refine c_exit rfl ?_
                  refine c_seq ?_
                  refine c_region ?_
                  refine l_l rfl rfl rfl ?_
                  refine l_nil ?_
                  refine c_ret ?_
                  exact l_end0 (fun _ _ => rets_v rfl) ⟨rfl, rfl⟩

end Go.Proofs.Ytmafgccagaihbaa
