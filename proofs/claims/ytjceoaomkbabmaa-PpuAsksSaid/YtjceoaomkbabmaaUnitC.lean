/- The contracts of a cycle. -/
import Derived.Test.YtjceoaomkbabmaaUnitB
import Derived.Test.YtjceoaomkbabmaaCalls
namespace Go.Proofs.Ytjceoaomkbabmaa
open Go Go.VV Go.Proofs
set_option linter.unusedSimpArgs false
set_option linter.unusedVariables false
set_option maxRecDepth 100000
theorem next_fn (b : Nat) (u : PU) (hu : u.Wf) (w : World) (hst : St w [b] [(b, blk (cU u) 60)] w) (hl : u.line < 154) : Does Try.prog 34 [.pointer (some ⟨b, 0, none⟩)] w [b] (fun v H => v = .int .u8 (nextV u) ∧ H = [(b, blk (cU (nextU u)) 60)]) := by
  have hlb := hu.line
  have hfb := hu.frames
  refine does_of Try.func34 rfl rfl rfl hst ?_
  refine c_seq ?_
  refine c_region ?_
  refine l_l rfl rfl rfl ?_
  refine l_nil ?_
  refine c_seq ?_
  refine c_region ?_
  refine l_l rfl rfl rfl ?_
  refine l_l rfl rfl rfl ?_
  refine l_l (light_fa rfl rfl) rfl rfl ?_
  refine l_x (x_storeTo (l' := cU { u with dot := 0 }) 0 rfl rfl rfl rfl rfl rfl (by rw [cU_len hu]; simp only [List.length_cons, List.length_nil]; (try simp only [decide_eq_true_eq, decide_eq_false_iff_not, beq_iff_eq, beq_eq_false_iff_ne, bne_iff_ne, bne_eq_false_iff_eq, ne_eq] at *); omega) (putU_dot hu _)) rfl rfl ?_
  rintro _ _ ⟨rfl, rfl⟩
  simp only [List.set_cons_zero, List.set_cons_succ]
  refine l_nil ?_
  refine c_seq ?_
  refine c_region ?_
  refine l_l rfl rfl rfl ?_
  refine l_l rfl rfl rfl ?_
  refine l_l (light_fa rfl rfl) rfl rfl ?_
  refine l_x (x_load rfl rfl (at_own (by repeat (first | exact .head _ | refine .tail _ ?_ | refine List.mem_append_right _ ?_)) (cU_line (hu.dot_ (x := 0) (by decide))))) rfl rfl ?_
  rintro _ _ ⟨rfl, rfl⟩
  refine l_as (v := (.int .i64 (u.line + 1))) rfl rfl rfl (congrArg _ (wrap_i64 (by dsimp only; omega) (by dsimp only; omega))) ?_
  refine l_l rfl rfl rfl ?_
  refine l_l (light_fa rfl rfl) rfl rfl ?_
  refine l_x (x_storeTo (l' := cU { u with dot := 0, line := u.line + 1 }) 0 rfl rfl rfl rfl rfl rfl (by rw [cU_len (hu.dot_ (x := 0) (by decide))]; simp only [List.length_cons, List.length_nil]; (try simp only [decide_eq_true_eq, decide_eq_false_iff_not, beq_iff_eq, beq_eq_false_iff_ne, bne_iff_ne, bne_eq_false_iff_eq, ne_eq] at *); omega) (putU_line (hu.dot_ (x := 0) (by decide)) _)) rfl rfl ?_
  rintro _ _ ⟨rfl, rfl⟩
  simp only [List.set_cons_zero, List.set_cons_succ]
  refine l_nil ?_
  refine c_seq ?_
  refine c_seq ?_
  refine c_region ?_
  refine l_l rfl rfl rfl ?_
  refine l_l rfl rfl rfl ?_
  refine l_l (light_fa rfl rfl) rfl rfl ?_
  refine l_x (x_load rfl rfl (at_own (by repeat (first | exact .head _ | refine .tail _ ?_ | refine List.mem_append_right _ ?_)) (cU_line ((hu.dot_ (x := 0) (by decide)).line_ (x := u.line + 1) (by omega))))) rfl rfl ?_
  rintro _ _ ⟨rfl, rfl⟩
  refine l_nil ?_
  refine c_block ?_
  refine c_seq ?_
  refine c_region ?_
  refine l_l rfl rfl rfl ?_
  refine l_l rfl rfl rfl ?_
  refine l_nil ?_
  refine c_cond rfl (fun h1 => ?_) (fun h1 => ?_)
  · refine c_seq ?_
    refine c_region ?_
    refine l_l rfl rfl rfl ?_
    refine l_l rfl rfl rfl ?_
    refine l_l rfl rfl rfl ?_
    refine l_l (light_fa rfl rfl) rfl rfl ?_
    refine l_x (x_load rfl rfl (at_own (by repeat (first | exact .head _ | refine .tail _ ?_ | refine List.mem_append_right _ ?_)) (cU_frames ((hu.dot_ (x := 0) (by decide)).line_ (x := u.line + 1) (by omega))))) rfl rfl ?_
    rintro _ _ ⟨rfl, rfl⟩
    refine l_as (v := (.int .i64 (u.frames + 1))) rfl rfl rfl (congrArg _ (wrap_i64 (by dsimp only; omega) (by dsimp only; omega))) ?_
    refine l_as (v := (.int .i64 ((u.frames + 1) % 65536))) rfl rfl rfl (congrArg _ (Int.tmod_eq_emod_of_nonneg (by omega))) ?_
    refine l_l rfl rfl rfl ?_
    refine l_l (light_fa rfl rfl) rfl rfl ?_
    refine l_x (x_storeTo (l' := cU { u with dot := 0, line := u.line + 1, frames := (u.frames + 1) % 65536 }) 0 rfl rfl rfl rfl rfl rfl (by rw [cU_len ((hu.dot_ (x := 0) (by decide)).line_ (x := u.line + 1) (by omega))]; simp only [List.length_cons, List.length_nil]; (try simp only [decide_eq_true_eq, decide_eq_false_iff_not, beq_iff_eq, beq_eq_false_iff_ne, bne_iff_ne, bne_eq_false_iff_eq, ne_eq] at *); omega) (putU_frames ((hu.dot_ (x := 0) (by decide)).line_ (x := u.line + 1) (by omega)) _)) rfl rfl ?_
    rintro _ _ ⟨rfl, rfl⟩
    simp only [List.set_cons_zero, List.set_cons_succ]
    refine l_nil ?_
    refine c_seq ?_
    refine c_region ?_
    refine l_l rfl rfl rfl ?_
    refine l_nil ?_
    refine c_ret ?_
    exact l_end (fun _ _ => rets_v rfl) (List.Sublist.refl _) ⟨congrArg _ (by unfold nextV; rw [if_pos (by (try simp only [decide_eq_true_eq, decide_eq_false_iff_not, beq_iff_eq, beq_eq_false_iff_ne, bne_iff_ne, bne_eq_false_iff_eq, ne_eq] at *); omega)]), by rw [next_1 (by (try simp only [decide_eq_true_eq, decide_eq_false_iff_not, beq_iff_eq, beq_eq_false_iff_ne, bne_iff_ne, bne_eq_false_iff_eq, ne_eq] at *); omega), show u.line + 1 = 144 by (try simp only [decide_eq_true_eq, decide_eq_false_iff_not, beq_iff_eq, beq_eq_false_iff_ne, bne_iff_ne, bne_eq_false_iff_eq, ne_eq] at *); omega]⟩
  · refine c_seq ?_
    refine c_region ?_
    refine l_l rfl rfl rfl ?_
    refine l_l rfl rfl rfl ?_
    refine l_nil ?_
    refine c_cond rfl (fun h2 => ?_) (fun h2 => ?_)
    · refine c_region ?_
      refine l_l rfl rfl rfl ?_
      refine l_l rfl rfl rfl ?_
      refine l_l rfl rfl rfl ?_
      refine l_l (light_fa rfl rfl) rfl rfl ?_
      refine l_x (x_storeTo (l' := cU { u with dot := 0, line := 0 }) 0 rfl rfl rfl rfl rfl rfl (by rw [cU_len ((hu.dot_ (x := 0) (by decide)).line_ (x := u.line + 1) (by omega))]; simp only [List.length_cons, List.length_nil]; (try simp only [decide_eq_true_eq, decide_eq_false_iff_not, beq_iff_eq, beq_eq_false_iff_ne, bne_iff_ne, bne_eq_false_iff_eq, ne_eq] at *); omega) (putU_line ((hu.dot_ (x := 0) (by decide)).line_ (x := u.line + 1) (by omega)) _)) rfl rfl ?_
      rintro _ _ ⟨rfl, rfl⟩
      simp only [List.set_cons_zero, List.set_cons_succ]
      refine l_l rfl rfl rfl ?_
      refine l_l (light_fa rfl rfl) rfl rfl ?_
      refine l_x (x_storeTo (l' := cU { u with dot := 0, line := 0, own := 0 }) 0 rfl rfl rfl rfl rfl rfl (by rw [cU_len ((hu.dot_ (x := 0) (by decide)).line_ (x := 0) (by decide))]; simp only [List.length_cons, List.length_nil]; (try simp only [decide_eq_true_eq, decide_eq_false_iff_not, beq_iff_eq, beq_eq_false_iff_ne, bne_iff_ne, bne_eq_false_iff_eq, ne_eq] at *); omega) (putU_own ((hu.dot_ (x := 0) (by decide)).line_ (x := 0) (by decide)) _)) rfl rfl ?_
      rintro _ _ ⟨rfl, rfl⟩
      simp only [List.set_cons_zero, List.set_cons_succ]
      refine l_nil ?_
      refine c_seq ?_
      refine c_region ?_
      refine l_l rfl rfl rfl ?_
      refine l_nil ?_
      refine c_ret ?_
      exact l_end (fun _ _ => rets_v rfl) (List.Sublist.refl _) ⟨congrArg _ (by unfold nextV; rw [if_neg (by (try simp only [decide_eq_true_eq, decide_eq_false_iff_not, beq_iff_eq, beq_eq_false_iff_ne, bne_iff_ne, bne_eq_false_iff_eq, ne_eq] at *); omega)]), by rw [next_2 (by (try simp only [decide_eq_true_eq, decide_eq_false_iff_not, beq_iff_eq, beq_eq_false_iff_ne, bne_iff_ne, bne_eq_false_iff_eq, ne_eq] at *); omega)]⟩
    · refine c_skip ?_
      refine c_seq ?_
      refine c_region ?_
      refine l_l rfl rfl rfl ?_
      refine l_nil ?_
      refine c_ret ?_
      exact l_end (fun _ _ => rets_v rfl) (List.Sublist.refl _) ⟨congrArg _ (by unfold nextV; rw [if_neg (by (try simp only [decide_eq_true_eq, decide_eq_false_iff_not, beq_iff_eq, beq_eq_false_iff_ne, bne_iff_ne, bne_eq_false_iff_eq, ne_eq] at *); omega)]), by rw [next_3 (by (try simp only [decide_eq_true_eq, decide_eq_false_iff_not, beq_iff_eq, beq_eq_false_iff_ne, bne_iff_ne, bne_eq_false_iff_eq, ne_eq] at *); omega) (by (try simp only [decide_eq_true_eq, decide_eq_false_iff_not, beq_iff_eq, beq_eq_false_iff_ne, bne_iff_ne, bne_eq_false_iff_eq, ne_eq] at *); omega)]⟩

set_option maxHeartbeats 2000000 in
theorem tick_fn (b : Nat) (u : PU) (hok : u.Ok) (w : World) (hst : St w [b] [(b, blk (cU u) 60)] w) : Does Try.prog 13 [.pointer (some ⟨b, 0, none⟩)] w [b] (fun v H => v = .int .u8 (tickV u) ∧ H = [(b, blk (cU (tickU u)) 60)]) := by
  have hu := hok.wf
  have hd := hok.dot
  have hlb := hu.line
  have hl154 := hok.line
  have hdb := hu.dot
  have hws := hok.step
  refine does_of Try.func13 rfl rfl rfl hst ?_
  refine c_seq ?_
  refine c_region ?_
  refine l_l rfl rfl rfl ?_
  refine l_nil ?_
  refine c_seq ?_
  refine c_seq ?_
  refine c_region ?_
  refine l_l rfl rfl rfl ?_
  refine l_l rfl rfl rfl ?_
  refine l_l rfl rfl rfl ?_
  refine l_l rfl rfl rfl ?_
  refine l_x (x_val call_31 rfl (fun w hw => lit_fn b u hu w (row_own (by repeat (first | exact .head _ | refine .tail _ ?_ | refine List.mem_append_right _ ?_)) w hw))) rfl rfl ?_
  rintro _ _ ⟨rfl, rfl⟩
  refine l_l rfl rfl rfl ?_
  refine l_l rfl rfl rfl ?_
  refine l_nil ?_
  refine c_cond rfl (fun h1 => ?_) (fun h1 => ?_)
  · refine c_seq ?_
    refine c_region ?_
    refine l_l rfl rfl rfl ?_
    refine l_nil ?_
    refine c_ret ?_
    exact l_end (fun _ _ => rets_v rfl) (List.Sublist.refl _) ⟨congrArg _ (by unfold tickV; rw [if_neg (by simp_all)]), by unfold tickU; rw [if_neg (by simp_all)]⟩
  · refine c_skip ?_
    refine c_seq ?_
    refine c_region ?_
    refine l_l rfl rfl rfl ?_
    refine l_nil ?_
    refine c_seq ?_
    refine c_region ?_
    refine l_l rfl rfl rfl ?_
    refine l_l rfl rfl rfl ?_
    refine l_l (light_fa rfl rfl) rfl rfl ?_
    refine l_x (x_load rfl rfl (at_own (by repeat (first | exact .head _ | refine .tail _ ?_ | refine List.mem_append_right _ ?_)) (cU_dot hu))) rfl rfl ?_
    rintro _ _ ⟨rfl, rfl⟩
    refine l_as (v := (.int .i64 (u.dot + 1))) rfl rfl rfl (congrArg _ (wrap_i64 (by omega) (by omega))) ?_
    refine l_l rfl rfl rfl ?_
    refine l_l (light_fa rfl rfl) rfl rfl ?_
    refine l_x (x_storeTo (l' := cU (oneU u)) 0 rfl rfl rfl rfl rfl rfl (by rw [cU_len hu]; simp only [List.length_cons, List.length_nil]; (try simp only [decide_eq_true_eq, decide_eq_false_iff_not, beq_iff_eq, beq_eq_false_iff_ne, bne_iff_ne, bne_eq_false_iff_eq, ne_eq] at *); omega) (putU_dot hu _)) rfl rfl ?_
    rintro _ _ ⟨rfl, rfl⟩
    simp only [List.set_cons_zero, List.set_cons_succ]
    refine l_nil ?_
    refine c_seq ?_
    refine c_block ?_
    refine c_seq ?_
    refine c_region ?_
    refine l_l rfl rfl rfl ?_
    refine l_l rfl rfl rfl ?_
    refine l_l (light_fa rfl rfl) rfl rfl ?_
    refine l_x (x_load rfl rfl (at_own (by repeat (first | exact .head _ | refine .tail _ ?_ | refine List.mem_append_right _ ?_)) (show (cU (oneU u))[8365]? = some (.int .i64 (u.dot + 1)) from cU_dot (hu.one hd)))) rfl rfl ?_
    rintro _ _ ⟨rfl, rfl⟩
    refine l_l rfl rfl rfl ?_
    refine l_b rfl rfl rfl (fun h2 => ?_) (fun h2 => ?_)
    · refine l_l rfl rfl rfl ?_
      refine l_l rfl rfl rfl ?_
      refine l_l (light_fa rfl rfl) rfl rfl ?_
      refine l_x (x_load rfl rfl (at_own (by repeat (first | exact .head _ | refine .tail _ ?_ | refine List.mem_append_right _ ?_)) (show (cU (oneU u))[8364]? = some (.int .i64 u.line) from cU_line (hu.one hd)))) rfl rfl ?_
      rintro _ _ ⟨rfl, rfl⟩
      refine l_l rfl rfl rfl ?_
      refine l_l rfl rfl rfl ?_
      refine l_l rfl rfl rfl ?_
      refine l_nil ?_
      refine c_cond rfl (fun h3 => ?_) (fun h3 => ?_)
      · refine c_region ?_
        refine l_l rfl rfl rfl ?_
        refine l_x (x_callA call_33 rfl (fun w hw => paint_fn b (oneU u) (hu.one hd) w (St.lentA hw) (show u.line < 144 by (try simp only [decide_eq_true_eq, decide_eq_false_iff_not, beq_iff_eq, beq_eq_false_iff_ne, bne_iff_ne, bne_eq_false_iff_eq, ne_eq] at *); omega) hok.own599)) rfl rfl ?_
        rintro _ _ ⟨rfl, rfl⟩
        refine l_nil ?_
        refine c_seq ?_
        refine c_region ?_
        refine l_l rfl rfl rfl ?_
        refine l_l rfl rfl rfl ?_
        have hs9 : stepU u = paintU (oneU u) := step_paint (by (try simp only [decide_eq_true_eq, decide_eq_false_iff_not, beq_iff_eq, beq_eq_false_iff_ne, bne_iff_ne, bne_eq_false_iff_eq, ne_eq] at *); omega) (by (try simp only [decide_eq_true_eq, decide_eq_false_iff_not, beq_iff_eq, beq_eq_false_iff_ne, bne_iff_ne, bne_eq_false_iff_eq, ne_eq] at *); omega)
        refine l_heap (H' := [(b, blk (cU (stepU u)) 60)]) (fun _ h => h.as (by rw [hs9])) ?_
        refine l_x (x_callA call_32 rfl (fun w hw => ask_fn b (stepU u) hws w (St.lentA hw))) rfl rfl ?_
        rintro _ _ ⟨rfl, rfl⟩
        refine l_l rfl rfl rfl ?_
        refine l_l rfl rfl rfl ?_
        refine l_nil ?_
        refine c_ret ?_
        have hlit : litU u = true := by simp_all
        have hnv : 0 = stepV u := by unfold stepV; rw [if_neg (by (try simp only [decide_eq_true_eq, decide_eq_false_iff_not, beq_iff_eq, beq_eq_false_iff_ne, bne_iff_ne, bne_eq_false_iff_eq, ne_eq] at *); omega)]
        exact l_end (fun _ _ => rets_v rfl) (List.Sublist.refl _) ⟨congrArg _ (by unfold tickV; rw [if_pos hlit, ← bor_ask (stepV_one u) (askV_two _), ← hnv]; rfl), by unfold tickU; rw [if_pos hlit]⟩
      · refine c_seq ?_
        refine c_region ?_
        refine l_l rfl rfl rfl ?_
        refine l_l rfl rfl rfl ?_
        refine l_l (light_fa rfl rfl) rfl rfl ?_
        refine l_x (x_load rfl rfl (at_own (by repeat (first | exact .head _ | refine .tail _ ?_ | refine List.mem_append_right _ ?_)) (show (cU (oneU u))[8365]? = some (.int .i64 (u.dot + 1)) from cU_dot (hu.one hd)))) rfl rfl ?_
        rintro _ _ ⟨rfl, rfl⟩
        refine l_l rfl rfl rfl ?_
        refine l_l rfl rfl rfl ?_
        refine l_nil ?_
        refine c_cond rfl (fun h4 => ?_) (fun h4 => ?_)
        · refine c_region ?_
          refine l_l rfl rfl rfl ?_
          refine l_x (x_callA call_34 rfl (fun w hw => next_fn b (oneU u) (hu.one hd) w (St.lentA hw) (show u.line < 154 by (try simp only [decide_eq_true_eq, decide_eq_false_iff_not, beq_iff_eq, beq_eq_false_iff_ne, bne_iff_ne, bne_eq_false_iff_eq, ne_eq] at *); omega))) rfl rfl ?_
          rintro _ _ ⟨rfl, rfl⟩
          refine l_l rfl rfl rfl ?_
          refine l_nil ?_
          refine c_seq ?_
          refine c_region ?_
          refine l_l rfl rfl rfl ?_
          refine l_l rfl rfl rfl ?_
          have hs9 : stepU u = nextU (oneU u) := step_next (by (try simp only [decide_eq_true_eq, decide_eq_false_iff_not, beq_iff_eq, beq_eq_false_iff_ne, bne_iff_ne, bne_eq_false_iff_eq, ne_eq] at *); omega)
          refine l_heap (H' := [(b, blk (cU (stepU u)) 60)]) (fun _ h => h.as (by rw [hs9])) ?_
          refine l_x (x_callA call_32 rfl (fun w hw => ask_fn b (stepU u) hws w (St.lentA hw))) rfl rfl ?_
          rintro _ _ ⟨rfl, rfl⟩
          refine l_l rfl rfl rfl ?_
          refine l_l rfl rfl rfl ?_
          refine l_nil ?_
          refine c_ret ?_
          have hlit : litU u = true := by simp_all
          have hnv : nextV (oneU u) = stepV u := by
            have h8 : u.dot = 113 := (by (try simp only [decide_eq_true_eq, decide_eq_false_iff_not, beq_iff_eq, beq_eq_false_iff_ne, bne_iff_ne, bne_eq_false_iff_eq, ne_eq] at *); omega)
            unfold nextV stepV oneU; simp [h8]
          exact l_end (fun _ _ => rets_v rfl) (List.Sublist.refl _) ⟨congrArg _ (by unfold tickV; rw [if_pos hlit, ← bor_ask (stepV_one u) (askV_two _), ← hnv]; rfl), by unfold tickU; rw [if_pos hlit]⟩
        · refine c_skip ?_
          refine c_seq ?_
          refine c_region ?_
          refine l_l rfl rfl rfl ?_
          refine l_l rfl rfl rfl ?_
          have hs9 : stepU u = oneU u := step_one (by (try simp only [decide_eq_true_eq, decide_eq_false_iff_not, beq_iff_eq, beq_eq_false_iff_ne, bne_iff_ne, bne_eq_false_iff_eq, ne_eq] at *); omega) (by (try simp only [decide_eq_true_eq, decide_eq_false_iff_not, beq_iff_eq, beq_eq_false_iff_ne, bne_iff_ne, bne_eq_false_iff_eq, ne_eq] at *); omega)
          refine l_heap (H' := [(b, blk (cU (stepU u)) 60)]) (fun _ h => h.as (by rw [hs9])) ?_
          refine l_x (x_callA call_32 rfl (fun w hw => ask_fn b (stepU u) hws w (St.lentA hw))) rfl rfl ?_
          rintro _ _ ⟨rfl, rfl⟩
          refine l_l rfl rfl rfl ?_
          refine l_l rfl rfl rfl ?_
          refine l_nil ?_
          refine c_ret ?_
          have hlit : litU u = true := by simp_all
          have hnv : 0 = stepV u := by unfold stepV; rw [if_neg (by (try simp only [decide_eq_true_eq, decide_eq_false_iff_not, beq_iff_eq, beq_eq_false_iff_ne, bne_iff_ne, bne_eq_false_iff_eq, ne_eq] at *); omega)]
          exact l_end (fun _ _ => rets_v rfl) (List.Sublist.refl _) ⟨congrArg _ (by unfold tickV; rw [if_pos hlit, ← bor_ask (stepV_one u) (askV_two _), ← hnv]; rfl), by unfold tickU; rw [if_pos hlit]⟩
    · refine l_p rfl rfl ?_
      refine l_p rfl rfl ?_
      refine l_p rfl rfl ?_
      refine l_p rfl rfl ?_
      refine l_p rfl rfl ?_
      refine l_l rfl rfl rfl ?_
      refine l_l rfl rfl rfl ?_
      refine l_nil ?_
      refine c_false rfl ?_
      refine c_seq ?_
      refine c_region ?_
      refine l_l rfl rfl rfl ?_
      refine l_l rfl rfl rfl ?_
      refine l_l (light_fa rfl rfl) rfl rfl ?_
      refine l_x (x_load rfl rfl (at_own (by repeat (first | exact .head _ | refine .tail _ ?_ | refine List.mem_append_right _ ?_)) (show (cU (oneU u))[8365]? = some (.int .i64 (u.dot + 1)) from cU_dot (hu.one hd)))) rfl rfl ?_
      rintro _ _ ⟨rfl, rfl⟩
      refine l_l rfl rfl rfl ?_
      refine l_l rfl rfl rfl ?_
      refine l_nil ?_
      refine c_cond rfl (fun h5 => ?_) (fun h5 => ?_)
      · refine c_region ?_
        refine l_l rfl rfl rfl ?_
        refine l_x (x_callA call_34 rfl (fun w hw => next_fn b (oneU u) (hu.one hd) w (St.lentA hw) (show u.line < 154 by (try simp only [decide_eq_true_eq, decide_eq_false_iff_not, beq_iff_eq, beq_eq_false_iff_ne, bne_iff_ne, bne_eq_false_iff_eq, ne_eq] at *); omega))) rfl rfl ?_
        rintro _ _ ⟨rfl, rfl⟩
        refine l_l rfl rfl rfl ?_
        refine l_nil ?_
        refine c_seq ?_
        refine c_region ?_
        refine l_l rfl rfl rfl ?_
        refine l_l rfl rfl rfl ?_
        have hs9 : stepU u = nextU (oneU u) := step_next (by (try simp only [decide_eq_true_eq, decide_eq_false_iff_not, beq_iff_eq, beq_eq_false_iff_ne, bne_iff_ne, bne_eq_false_iff_eq, ne_eq] at *); omega)
        refine l_heap (H' := [(b, blk (cU (stepU u)) 60)]) (fun _ h => h.as (by rw [hs9])) ?_
        refine l_x (x_callA call_32 rfl (fun w hw => ask_fn b (stepU u) hws w (St.lentA hw))) rfl rfl ?_
        rintro _ _ ⟨rfl, rfl⟩
        refine l_l rfl rfl rfl ?_
        refine l_l rfl rfl rfl ?_
        refine l_nil ?_
        refine c_ret ?_
        have hlit : litU u = true := by simp_all
        have hnv : nextV (oneU u) = stepV u := by
          have h8 : u.dot = 113 := (by (try simp only [decide_eq_true_eq, decide_eq_false_iff_not, beq_iff_eq, beq_eq_false_iff_ne, bne_iff_ne, bne_eq_false_iff_eq, ne_eq] at *); omega)
          unfold nextV stepV oneU; simp [h8]
        exact l_end (fun _ _ => rets_v rfl) (List.Sublist.refl _) ⟨congrArg _ (by unfold tickV; rw [if_pos hlit, ← bor_ask (stepV_one u) (askV_two _), ← hnv]; rfl), by unfold tickU; rw [if_pos hlit]⟩
      · refine c_skip ?_
        refine c_seq ?_
        refine c_region ?_
        refine l_l rfl rfl rfl ?_
        refine l_l rfl rfl rfl ?_
        have hs9 : stepU u = oneU u := step_one (by (try simp only [decide_eq_true_eq, decide_eq_false_iff_not, beq_iff_eq, beq_eq_false_iff_ne, bne_iff_ne, bne_eq_false_iff_eq, ne_eq] at *); omega) (by (try simp only [decide_eq_true_eq, decide_eq_false_iff_not, beq_iff_eq, beq_eq_false_iff_ne, bne_iff_ne, bne_eq_false_iff_eq, ne_eq] at *); omega)
        refine l_heap (H' := [(b, blk (cU (stepU u)) 60)]) (fun _ h => h.as (by rw [hs9])) ?_
        refine l_x (x_callA call_32 rfl (fun w hw => ask_fn b (stepU u) hws w (St.lentA hw))) rfl rfl ?_
        rintro _ _ ⟨rfl, rfl⟩
        refine l_l rfl rfl rfl ?_
        refine l_l rfl rfl rfl ?_
        refine l_nil ?_
        refine c_ret ?_
        have hlit : litU u = true := by simp_all
        have hnv : 0 = stepV u := by unfold stepV; rw [if_neg (by (try simp only [decide_eq_true_eq, decide_eq_false_iff_not, beq_iff_eq, beq_eq_false_iff_ne, bne_iff_ne, bne_eq_false_iff_eq, ne_eq] at *); omega)]
        exact l_end (fun _ _ => rets_v rfl) (List.Sublist.refl _) ⟨congrArg _ (by unfold tickV; rw [if_pos hlit, ← bor_ask (stepV_one u) (askV_two _), ← hnv]; rfl), by unfold tickU; rw [if_pos hlit]⟩

theorem new_fn (w : World) : Does Try.prog 11 [] w [] (fun v H => ∃ b, v = .pointer (some ⟨b, 0, none⟩) ∧ H = [(b, blk (cU zeroU) 60)]) := by
  refine does_of Try.func11 rfl rfl rfl (St.refl w) ?_
  refine c_seq ?_
  refine c_region ?_
  refine l_l rfl rfl rfl ?_
  refine l_nil ?_
  refine c_seq ?_
  refine c_region ?_
  refine l_l (light_struct (l := cU zeroU) (z := cU zeroU) (ps := []) rfl (by kernel_rfl) rfl rfl) rfl rfl ?_
  refine l_x (x_box (l := cU zeroU) rfl rfl) rfl rfl ?_
  rintro _ _ ⟨b2, rfl, rfl⟩
  refine l_l rfl rfl rfl ?_
  refine l_nil ?_
  refine c_ret ?_
  exact l_end (fun _ _ => rets_v rfl) (List.Sublist.refl _) ⟨b2, rfl, rfl⟩

end Go.Proofs.Ytjceoaomkbabmaa
