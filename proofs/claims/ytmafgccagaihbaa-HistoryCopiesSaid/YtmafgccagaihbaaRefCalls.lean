/- The contracts of the document's functions of history. -/
import Derived.Test.YtmafgccagaihbaaRefs
import Derived.Test.YtmafgccagaihbaaProg
import Derived.Test.YtmafgccagaihbaaCalls
namespace Go.Proofs.Ytmafgccagaihbaa
open Go Go.VV Go.Proofs
set_option linter.unusedSimpArgs false
set_option linter.unusedVariables false
set_option maxRecDepth 100000
theorem how_fn (s : Stp) (w : World) :
    Does Try.prog 32 [.agg (cD s).toArray] w [] (fun v H => H = [] ∧ v = .int .i64 (howI s)) := by
  refine does_of Try.func32 rfl rfl rfl (St.refl w) ?_
  refine c_seq ?_
  refine c_region ?_
  refine l_x (x_box rfl rfl) rfl rfl ?_
  rintro _ _ ⟨b1, rfl, rfl⟩
  refine l_l rfl rfl rfl ?_
  refine l_nil ?_
  refine c_seq ?_
  refine c_seq ?_
  refine c_region ?_
  refine l_l (light_fa rfl rfl) rfl rfl ?_
  refine l_x (x_load rfl rfl (at_own (by repeat (first | exact .head _ | refine .tail _ ?_ | refine List.mem_append_right _ ?_)) (by rfl))) rfl rfl ?_
  rintro _ _ ⟨rfl, rfl⟩
  refine l_l rfl rfl rfl ?_
  refine l_nil ?_
  refine c_cond rfl (fun h1 => ?_) (fun h1 => ?_)
  · refine c_seq ?_
    refine c_region ?_
    refine l_l rfl rfl rfl ?_
    refine l_nil ?_
    refine c_ret ?_
    exact l_end0 (fun _ _ => rets_v rfl) ⟨rfl, congrArg _ (by unfold howI; simp_all)⟩
  · refine c_skip ?_
    refine c_seq ?_
    refine c_seq ?_
    refine c_region ?_
    refine l_l (light_fa rfl rfl) rfl rfl ?_
    refine l_x (x_load rfl rfl (at_own (by repeat (first | exact .head _ | refine .tail _ ?_ | refine List.mem_append_right _ ?_)) (by rfl))) rfl rfl ?_
    rintro _ _ ⟨rfl, rfl⟩
    refine l_l rfl rfl rfl ?_
    refine l_b rfl rfl rfl (fun h2 => ?_) (fun h2 => ?_)
    · refine l_l (light_fa rfl rfl) rfl rfl ?_
      refine l_l (light_fa rfl rfl) rfl rfl ?_
      refine l_x (x_load rfl rfl (at_own (by repeat (first | exact .head _ | refine .tail _ ?_ | refine List.mem_append_right _ ?_)) (by rfl))) rfl rfl ?_
      rintro _ _ ⟨rfl, rfl⟩
      refine l_l rfl rfl rfl ?_
      refine l_l rfl rfl rfl ?_
      refine l_b rfl rfl rfl (fun h3 => ?_) (fun h3 => ?_)
      · refine l_l (light_fa rfl rfl) rfl rfl ?_
        refine l_x (x_load rfl rfl (at_own (by repeat (first | exact .head _ | refine .tail _ ?_ | refine List.mem_append_right _ ?_)) (by rfl))) rfl rfl ?_
        rintro _ _ ⟨rfl, rfl⟩
        refine l_l rfl rfl rfl ?_
        refine l_nil ?_
        refine c_cond rfl (fun h4 => ?_) (fun h4 => ?_)
        · refine c_seq ?_
          refine c_region ?_
          refine l_l rfl rfl rfl ?_
          refine l_nil ?_
          refine c_ret ?_
          exact l_end0 (fun _ _ => rets_v rfl) ⟨rfl, congrArg _ (by unfold howI; simp_all)⟩
        · refine c_skip ?_
          refine c_seq ?_
          refine c_seq ?_
          refine c_region ?_
          refine l_l (light_fa rfl rfl) rfl rfl ?_
          refine l_x (x_load rfl rfl (at_own (by repeat (first | exact .head _ | refine .tail _ ?_ | refine List.mem_append_right _ ?_)) (by rfl))) rfl rfl ?_
          rintro _ _ ⟨rfl, rfl⟩
          refine l_l rfl rfl rfl ?_
          refine l_b rfl rfl rfl (fun h5 => ?_) (fun h5 => ?_)
          · refine l_l (light_fa rfl rfl) rfl rfl ?_
            refine l_l (light_fa rfl rfl) rfl rfl ?_
            refine l_x (x_load rfl rfl (at_own (by repeat (first | exact .head _ | refine .tail _ ?_ | refine List.mem_append_right _ ?_)) (by rfl))) rfl rfl ?_
            rintro _ _ ⟨rfl, rfl⟩
            refine l_l rfl rfl rfl ?_
            refine l_l rfl rfl rfl ?_
            refine l_nil ?_
            refine c_cond rfl (fun h6 => ?_) (fun h6 => ?_)
            · refine c_seq ?_
              refine c_region ?_
              refine l_l rfl rfl rfl ?_
              refine l_nil ?_
              refine c_ret ?_
              exact l_end0 (fun _ _ => rets_v rfl) ⟨rfl, congrArg _ (by unfold howI; simp_all)⟩
            · refine c_skip ?_
              refine c_seq ?_
              refine c_region ?_
              refine l_l rfl rfl rfl ?_
              refine l_nil ?_
              refine c_ret ?_
              exact l_end0 (fun _ _ => rets_v rfl) ⟨rfl, congrArg _ (by unfold howI; simp_all)⟩
          · refine l_p rfl rfl ?_
            refine l_p rfl rfl ?_
            refine l_p rfl rfl ?_
            refine l_p rfl rfl ?_
            refine l_l rfl rfl rfl ?_
            refine l_nil ?_
            refine c_false rfl ?_
            refine c_skip ?_
            refine c_seq ?_
            refine c_region ?_
            refine l_l rfl rfl rfl ?_
            refine l_nil ?_
            refine c_ret ?_
            exact l_end0 (fun _ _ => rets_v rfl) ⟨rfl, congrArg _ (by unfold howI; simp_all)⟩
      · refine l_p rfl rfl ?_
        refine l_p rfl rfl ?_
        refine l_l rfl rfl rfl ?_
        refine l_nil ?_
        refine c_false rfl ?_
        refine c_skip ?_
        refine c_seq ?_
        refine c_seq ?_
        refine c_region ?_
        refine l_l (light_fa rfl rfl) rfl rfl ?_
        refine l_x (x_load rfl rfl (at_own (by repeat (first | exact .head _ | refine .tail _ ?_ | refine List.mem_append_right _ ?_)) (by rfl))) rfl rfl ?_
        rintro _ _ ⟨rfl, rfl⟩
        refine l_l rfl rfl rfl ?_
        refine l_b rfl rfl rfl (fun h7 => ?_) (fun h7 => ?_)
        · refine l_l (light_fa rfl rfl) rfl rfl ?_
          refine l_l (light_fa rfl rfl) rfl rfl ?_
          refine l_x (x_load rfl rfl (at_own (by repeat (first | exact .head _ | refine .tail _ ?_ | refine List.mem_append_right _ ?_)) (by rfl))) rfl rfl ?_
          rintro _ _ ⟨rfl, rfl⟩
          refine l_l rfl rfl rfl ?_
          refine l_l rfl rfl rfl ?_
          refine l_nil ?_
          refine c_cond rfl (fun h8 => ?_) (fun h8 => ?_)
          · refine c_seq ?_
            refine c_region ?_
            refine l_l rfl rfl rfl ?_
            refine l_nil ?_
            refine c_ret ?_
            exact l_end0 (fun _ _ => rets_v rfl) ⟨rfl, congrArg _ (by unfold howI; simp_all)⟩
          · refine c_skip ?_
            refine c_seq ?_
            refine c_region ?_
            refine l_l rfl rfl rfl ?_
            refine l_nil ?_
            refine c_ret ?_
            exact l_end0 (fun _ _ => rets_v rfl) ⟨rfl, congrArg _ (by unfold howI; simp_all)⟩
        · refine l_p rfl rfl ?_
          refine l_p rfl rfl ?_
          refine l_p rfl rfl ?_
          refine l_p rfl rfl ?_
          refine l_l rfl rfl rfl ?_
          refine l_nil ?_
          refine c_false rfl ?_
          refine c_skip ?_
          refine c_seq ?_
          refine c_region ?_
          refine l_l rfl rfl rfl ?_
          refine l_nil ?_
          refine c_ret ?_
          exact l_end0 (fun _ _ => rets_v rfl) ⟨rfl, congrArg _ (by unfold howI; simp_all)⟩
    · refine l_p rfl rfl ?_
      refine l_p rfl rfl ?_
      refine l_p rfl rfl ?_
      refine l_p rfl rfl ?_
      refine l_l rfl rfl rfl ?_
      refine l_l rfl rfl rfl ?_
      refine l_p rfl rfl ?_
      refine l_p rfl rfl ?_
      refine l_l rfl rfl rfl ?_
      refine l_nil ?_
      refine c_false rfl ?_
      refine c_skip ?_
      refine c_seq ?_
      refine c_seq ?_
      refine c_region ?_
      refine l_l (light_fa rfl rfl) rfl rfl ?_
      refine l_x (x_load rfl rfl (at_own (by repeat (first | exact .head _ | refine .tail _ ?_ | refine List.mem_append_right _ ?_)) (by rfl))) rfl rfl ?_
      rintro _ _ ⟨rfl, rfl⟩
      refine l_l rfl rfl rfl ?_
      refine l_b rfl rfl rfl (fun h9 => ?_) (fun h9 => ?_)
      · refine l_l (light_fa rfl rfl) rfl rfl ?_
        refine l_l (light_fa rfl rfl) rfl rfl ?_
        refine l_x (x_load rfl rfl (at_own (by repeat (first | exact .head _ | refine .tail _ ?_ | refine List.mem_append_right _ ?_)) (by rfl))) rfl rfl ?_
        rintro _ _ ⟨rfl, rfl⟩
        refine l_l rfl rfl rfl ?_
        refine l_l rfl rfl rfl ?_
        refine l_nil ?_
        refine c_cond rfl (fun h10 => ?_) (fun h10 => ?_)
        · refine c_seq ?_
          refine c_region ?_
          refine l_l rfl rfl rfl ?_
          refine l_nil ?_
          refine c_ret ?_
          exact l_end0 (fun _ _ => rets_v rfl) ⟨rfl, congrArg _ (by unfold howI; simp_all)⟩
        · refine c_skip ?_
          refine c_seq ?_
          refine c_region ?_
          refine l_l rfl rfl rfl ?_
          refine l_nil ?_
          refine c_ret ?_
          exact l_end0 (fun _ _ => rets_v rfl) ⟨rfl, congrArg _ (by unfold howI; simp_all)⟩
      · refine l_p rfl rfl ?_
        refine l_p rfl rfl ?_
        refine l_p rfl rfl ?_
        refine l_p rfl rfl ?_
        refine l_l rfl rfl rfl ?_
        refine l_nil ?_
        refine c_false rfl ?_
        refine c_skip ?_
        refine c_seq ?_
        refine c_region ?_
        refine l_l rfl rfl rfl ?_
        refine l_nil ?_
        refine c_ret ?_
        exact l_end0 (fun _ _ => rets_v rfl) ⟨rfl, congrArg _ (by unfold howI; simp_all)⟩

theorem returns_fn (s : Stp) (r : Bool) (hr : retsB s = r) (w : World) :
    Does Try.prog 33 [.agg (cD s).toArray] w [] (fun v H => H = [] ∧ v = .bool r) := by
  refine does_of Try.func33 rfl rfl rfl (St.refl w) ?_
  refine c_seq ?_
  refine c_region ?_
  refine l_x (x_box rfl rfl) rfl rfl ?_
  rintro _ _ ⟨b1, rfl, rfl⟩
  refine l_l rfl rfl rfl ?_
  refine l_nil ?_
  refine c_seq ?_
  refine c_region ?_
  refine l_l (light_fa rfl rfl) rfl rfl ?_
  refine l_x (x_load rfl rfl (at_own (by repeat (first | exact .head _ | refine .tail _ ?_ | refine List.mem_append_right _ ?_)) (by rfl))) rfl rfl ?_
  rintro _ _ ⟨rfl, rfl⟩
  refine l_l rfl rfl rfl ?_
  refine l_b rfl rfl rfl (fun h1 => ?_) (fun h1 => ?_)
  · refine l_l (light_fa rfl rfl) rfl rfl ?_
    refine l_l (light_fa rfl rfl) rfl rfl ?_
    refine l_x (x_load rfl rfl (at_own (by repeat (first | exact .head _ | refine .tail _ ?_ | refine List.mem_append_right _ ?_)) (by rfl))) rfl rfl ?_
    rintro _ _ ⟨rfl, rfl⟩
    refine l_l rfl rfl rfl ?_
    refine l_b rfl rfl rfl (fun h2 => ?_) (fun h2 => ?_)
    · refine l_l (light_fa rfl rfl) rfl rfl ?_
      refine l_x (x_load rfl rfl (at_own (by repeat (first | exact .head _ | refine .tail _ ?_ | refine List.mem_append_right _ ?_)) (by rfl))) rfl rfl ?_
      rintro _ _ ⟨rfl, rfl⟩
      refine l_l rfl rfl rfl ?_
      refine l_b rfl rfl rfl (fun h3 => ?_) (fun h3 => ?_)
      · refine l_p rfl rfl ?_
        refine l_p rfl rfl ?_
        refine l_p rfl rfl ?_
        refine l_p rfl rfl ?_
        refine l_l rfl rfl rfl ?_
        refine l_l rfl rfl rfl ?_
        refine l_l rfl rfl rfl ?_
        refine l_nil ?_
        refine c_ret ?_
        exact l_end0 (fun _ _ => rets_v rfl) ⟨rfl, congrArg _ (by subst hr; unfold retsB; simp_all <;> rfl)⟩
      · refine l_l (light_fa rfl rfl) rfl rfl ?_
        refine l_l (light_fa rfl rfl) rfl rfl ?_
        refine l_x (x_load rfl rfl (at_own (by repeat (first | exact .head _ | refine .tail _ ?_ | refine List.mem_append_right _ ?_)) (by rfl))) rfl rfl ?_
        rintro _ _ ⟨rfl, rfl⟩
        refine l_l rfl rfl rfl ?_
        refine l_l rfl rfl rfl ?_
        refine l_l rfl rfl rfl ?_
        refine l_l rfl rfl rfl ?_
        refine l_nil ?_
        refine c_ret ?_
        exact l_end0 (fun _ _ => rets_v rfl) ⟨rfl, congrArg _ (by subst hr; unfold retsB; simp_all <;> rfl)⟩
    · refine l_p rfl rfl ?_
      refine l_p rfl rfl ?_
      refine l_l rfl rfl rfl ?_
      refine l_l rfl rfl rfl ?_
      refine l_l (light_fa rfl rfl) rfl rfl ?_
      refine l_l (light_fa rfl rfl) rfl rfl ?_
      refine l_x (x_load rfl rfl (at_own (by repeat (first | exact .head _ | refine .tail _ ?_ | refine List.mem_append_right _ ?_)) (by rfl))) rfl rfl ?_
      rintro _ _ ⟨rfl, rfl⟩
      refine l_l rfl rfl rfl ?_
      refine l_l rfl rfl rfl ?_
      refine l_l rfl rfl rfl ?_
      refine l_l rfl rfl rfl ?_
      refine l_nil ?_
      refine c_ret ?_
      exact l_end0 (fun _ _ => rets_v rfl) ⟨rfl, congrArg _ (by subst hr; unfold retsB; simp_all <;> rfl)⟩
  · refine l_p rfl rfl ?_
    refine l_p rfl rfl ?_
    refine l_p rfl rfl ?_
    refine l_p rfl rfl ?_
    refine l_p rfl rfl ?_
    refine l_p rfl rfl ?_
    refine l_p rfl rfl ?_
    refine l_p rfl rfl ?_
    refine l_p rfl rfl ?_
    refine l_p rfl rfl ?_
    refine l_p rfl rfl ?_
    refine l_p rfl rfl ?_
    refine l_p rfl rfl ?_
    refine l_p rfl rfl ?_
    refine l_l rfl rfl rfl ?_
    refine l_l rfl rfl rfl ?_
    refine l_nil ?_
    refine c_ret ?_
    exact l_end0 (fun _ _ => rets_v rfl) ⟨rfl, congrArg _ (by subst hr; unfold retsB; simp_all <;> rfl)⟩

set_option maxHeartbeats 8000000 in
theorem rcalls_fn (a : Option Addr) (c : Nat) (l : List Stp) (hok : ∀ s ∈ l, StpOk s) (hlen : l.length < 1000000000) (w : World) (hE : Els w cS a l) :
    Does Try.prog 27 [.slice a l.length c] w [] (fun v H => Seg cC (callsL l) v H) := by
  refine does_of Try.func27 rfl rfl rfl (St.refl w) ?_
  refine c_seq ?_
  refine c_region ?_
  refine l_l rfl rfl rfl ?_
  refine l_nil ?_
  refine c_seq ?_
  refine c_region ?_
  refine l_l rfl rfl rfl ?_
  refine l_nil ?_
  refine c_seq ?_
  refine c_seq ?_
  refine c_region ?_
  refine l_l rfl rfl rfl ?_
  refine l_l (by first | exact light_len rfl rfl | exact light_lens rfl rfl | rfl) rfl rfl ?_
  refine l_l rfl rfl rfl ?_
  refine l_nil ?_
  refine c_block ?_
  refine c_loop (σ := Nat × Value × Heap) [3, 4, 5, 6, 7, 10, 11, 12, 13, 14, 15, 16, 17, 18, 19, 20, 21, 22, 23, 24, 25, 26, 27, 28, 29, 30, 31, 32, 33, 34, 35, 36, 37, 38, 39, 40, 41, 42, 43, 44, 45, 46, 47, 48, 49, 50, 51, 52, 53, 54, 55, 56, 57, 58, 59, 60, 61, 62, 63, 64, 65, 66, 67, 68, 69, 70, 71, 72, 73] (fun s => [(3, s.2.1), (10, .int .i64 s.1)]) (fun s => s.2.2 ++ []) (fun s => s.1 ≤ l.length ∧ Seg cC (callsL (l.take s.1)) s.2.1 s.2.2) (fun s => l.length - s.1) (0, .slice none 0 0, []) ?_ ?_ ?_ ?_
  · exact ⟨Nat.zero_le _, .nil⟩
  · exact .cons rfl (.cons rfl .nil)
  · exact fun _ h => h
  · rintro ⟨k, v, G⟩ y3 ⟨hk, hS⟩
    dsimp only at hk hS ⊢
    refine c_seq ?_
    obtain ⟨cs, hcs⟩ : ∃ cs, callsL (l.take k) = cs := ⟨_, rfl⟩
    have hcl := callsL_len (l.take k)
    rw [hcs] at hS hcl
    have hS0 := hS
    rcases hS0 with ⟨rfl, hnil, rfl⟩ | ⟨b9, o9, c9, rfl, hc9, hr9⟩
    · refine c_region ?_
      refine l_l rfl rfl rfl ?_
      refine l_nil ?_
      refine c_seq ?_
      refine c_cond rfl (fun h1 => ?_) (fun h1 => ?_)
      · refine c_skip ?_
        refine c_seq ?_
        refine c_block ?_
        refine c_seq ?_
        refine c_region ?_
        refine l_l rfl rfl rfl ?_
        refine l_l rfl rfl rfl ?_
        refine l_nil ?_
        refine c_seq ?_
        obtain ⟨bl, ol, rfl, hr⟩ := hE.row (i := k) (by (try simp only [decide_eq_true_eq, decide_eq_false_iff_not, beq_iff_eq, beq_eq_false_iff_ne, bne_iff_ne, bne_eq_false_iff_eq, ne_eq] at *); omega)
        obtain ⟨s, hg⟩ : ∃ s, l[k]? = some s := ⟨_, get_some (by (try simp only [decide_eq_true_eq, decide_eq_false_iff_not, beq_iff_eq, beq_eq_false_iff_ne, bne_iff_ne, bne_eq_false_iff_eq, ne_eq] at *); omega)⟩
        have hso := hok s (List.mem_of_getElem? hg)
        refine c_region ?_
        refine l_l rfl rfl rfl ?_
        refine l_l rfl rfl rfl ?_
        refine l_l (idx_slice (s := 12) k rfl rfl rfl rfl (by (try simp only [decide_eq_true_eq, decide_eq_false_iff_not, beq_iff_eq, beq_eq_false_iff_ne, bne_iff_ne, bne_eq_false_iff_eq, ne_eq] at *); omega)) rfl rfl ?_
        refine l_l (light_fa rfl rfl) rfl rfl ?_
        refine l_x (x_loadA rfl rfl rfl (fun w hw => (row_old hr (by simp) w hw).part cS_len hg 2 9 rfl)) rfl rfl ?_
        rintro _ _ ⟨rfl, rfl⟩
        refine l_x (x_alloc rfl) rfl rfl ?_
        rintro _ _ ⟨b5, rfl, rfl⟩
        refine l_x (by first | exact x_store 0 rfl rfl rfl rfl rfl rfl (by first | rfl | exact Nat.le_of_ble_eq_true rfl | (simp; done)) | exact x_store 1 rfl rfl rfl rfl rfl rfl (by first | rfl | exact Nat.le_of_ble_eq_true rfl | (simp; done)) | exact x_store 2 rfl rfl rfl rfl rfl rfl (by first | rfl | exact Nat.le_of_ble_eq_true rfl | (simp; done)) | exact x_store 3 rfl rfl rfl rfl rfl rfl (by first | rfl | exact Nat.le_of_ble_eq_true rfl | (simp; done))) rfl rfl ?_
        rintro _ _ ⟨rfl, rfl⟩
        refine l_nil ?_
        refine c_seq ?_
        refine c_region ?_
        refine l_x (x_loadA rfl rfl rfl (by first | exact row_own (by repeat (first | exact .head _ | refine .tail _ ?_ | refine List.mem_append_right _ ?_)) | exact row_own_at (by repeat (first | exact .head _ | refine .tail _ ?_ | refine List.mem_append_right _ ?_)) _ 9 rfl)) rfl rfl ?_
        rintro _ _ ⟨rfl, rfl⟩
        refine l_x (x_val call_32 rfl (fun w hw => how_fn s w)) rfl rfl ?_
        rintro _ _ ⟨rfl, rfl⟩
        refine l_l rfl rfl rfl ?_
        refine l_nil ?_
        refine c_seq ?_
        refine c_seq ?_
        refine c_region ?_
        refine l_l rfl rfl rfl ?_
        refine l_l rfl rfl rfl ?_
        refine l_nil ?_
        refine c_cond rfl (fun h2 => ?_) (fun h2 => ?_)
        · refine c_seq ?_
          have hpos : 0 < howI s := by (try simp only [decide_eq_true_eq, decide_eq_false_iff_not, beq_iff_eq, beq_eq_false_iff_ne, bne_iff_ne, bne_eq_false_iff_eq, ne_eq] at *); omega
          refine c_region ?_
          refine l_l (light_fa rfl rfl) rfl rfl ?_
          refine l_x (x_load rfl rfl (at_own (by repeat (first | exact .head _ | refine .tail _ ?_ | refine List.mem_append_right _ ?_)) (by rfl))) rfl rfl ?_
          rintro _ _ ⟨rfl, rfl⟩
          refine l_as (v := (.int .i64 s.at_)) rfl rfl rfl (congrArg _ (wrap_i64 (by have := hso.at0; omega) (by have := hso.at0; omega))) ?_
          refine l_l rfl rfl rfl ?_
          refine l_nil ?_
          refine c_seq ?_
          refine c_seq ?_
          refine c_region ?_
          refine l_l rfl rfl rfl ?_
          refine l_l rfl rfl rfl ?_
          refine l_nil ?_
          refine c_cond rfl (fun h3 => ?_) (fun h3 => ?_)
          · refine c_region ?_
            refine l_l rfl rfl rfl ?_
            refine l_l (light_fa rfl rfl) rfl rfl ?_
            refine l_l (light_fa rfl rfl) rfl rfl ?_
            refine l_x (x_load rfl rfl (at_own (by repeat (first | exact .head _ | refine .tail _ ?_ | refine List.mem_append_right _ ?_)) (by rfl))) rfl rfl ?_
            rintro _ _ ⟨rfl, rfl⟩
            refine l_l rfl rfl rfl ?_
            refine l_l rfl rfl rfl ?_
            refine l_nil ?_
            refine c_seq ?_
            refine c_draw _ [0, 2, 9, 10, 11, 12, 13, 14, 15, 16, 17, 18, 19, 20] (.step true 1 (.step true 3 (.step true 4 (.step true 5 (.step true 6 (.step true 7 (.step true 8 (.step true 9 (.step true 10 (.step true 11 (.step true 12 (.step true 13 (.step true 14 (.step true 15 (.step true 16 (.step true 17 (.step true 18 (.step true 19 (.step true 20 (.step true 21 (.fork 0 (.fork 2 (.step false 22 (.step false 23 (.step true 24 .done))) (.fork 22 (.step false 2 (.step false 23 (.step true 24 .done))) .stop)) (.fork 22 (.step false 0 (.step false 2 (.step false 23 (.step true 24 .done)))) .stop)))))))))))))))))))))) rfl (by kernel_rfl) (by kernel_rfl) (fun _ h => h) ?_
            refine d_light rfl rfl rfl rfl rfl ?_
            refine d_light rfl rfl rfl rfl rfl ?_
            refine d_light rfl rfl rfl rfl rfl ?_
            refine d_light rfl rfl rfl rfl rfl ?_
            refine d_light rfl (idx_slice (s := 12) k rfl rfl rfl rfl (by (try simp only [decide_eq_true_eq, decide_eq_false_iff_not, beq_iff_eq, beq_eq_false_iff_ne, bne_iff_ne, bne_eq_false_iff_eq, ne_eq] at *); omega)) rfl rfl rfl ?_
            refine d_light rfl (light_fa rfl rfl) rfl rfl rfl ?_
            refine d_load rfl rfl rfl (fun w hw => (srow_old hr (by simp) w hw).at cS_len hg 1 rfl) rfl rfl ?_
            refine d_light rfl (light_fa rfl rfl) rfl rfl rfl ?_
            refine d_load rfl rfl rfl (s_own (by repeat (first | exact .head _ | refine .tail _ ?_ | refine List.mem_append_right _ ?_)) (by rfl)) rfl rfl ?_
            refine d_light rfl rfl rfl rfl rfl ?_
            refine d_light rfl rfl rfl rfl rfl ?_
            refine d_light rfl (idx_slice (s := 12) k rfl rfl rfl rfl (by (try simp only [decide_eq_true_eq, decide_eq_false_iff_not, beq_iff_eq, beq_eq_false_iff_ne, bne_iff_ne, bne_eq_false_iff_eq, ne_eq] at *); omega)) rfl rfl rfl ?_
            refine d_light rfl (light_fa rfl rfl) rfl rfl rfl ?_
            refine d_load rfl rfl rfl (fun w hw => (srow_old hr (by simp) w hw).at cS_len hg 11 rfl) rfl rfl ?_
            refine d_light rfl rfl rfl rfl rfl ?_
            refine d_light rfl (rem_pos rfl rfl (by decide)) rfl rfl rfl ?_
            refine d_light rfl rfl rfl rfl rfl ?_
            refine d_light rfl (rem_pos rfl rfl (by decide)) rfl rfl rfl ?_
            refine d_as (v := (.int .u16 (backI s))) rfl rfl rfl rfl rfl (congrArg _ (back_c (by (try simp only [decide_eq_true_eq, decide_eq_false_iff_not, beq_iff_eq, beq_eq_false_iff_ne, bne_iff_ne, bne_eq_false_iff_eq, ne_eq] at *); omega))) ?_
            refine d_light rfl (light_struct rfl rfl rfl rfl) rfl rfl rfl ?_
            refine d_fork ?_ ?_
            · refine d_x rfl (x_slc0 (el := 84) (n := 5) rfl) rfl rfl (by intro _ _ _ hK x hx; obtain ⟨_, rfl, rfl⟩ := hK; repeat (first | exact hx | exact List.mem_append_left _ hx | refine List.mem_append_right _ ?_ | refine .tail _ ?_)) ?_
              rintro _ _ ⟨b32, rfl, rfl⟩
              refine d_fork ?_ ?_
              · refine d_x rfl (x_append0 rfl rfl rfl rfl (Nat.le_refl 0)) rfl rfl (by intro _ _ _ hK x hx; obtain ⟨rfl, rfl⟩ := hK; repeat (first | exact hx | exact List.mem_append_left _ hx | refine List.mem_append_right _ ?_ | refine .tail _ ?_)) ?_
                rintro _ _ ⟨rfl, rfl⟩
                refine d_x rfl (x_slc rfl rfl rfl rfl rfl rfl) rfl rfl (by intro h; cases h) ?_
                rintro _ _ ⟨b54, rfl, rfl⟩
                refine d_x rfl (x_append (A := [(b54, _)]) (G := [(b32, blk [] 84)]) (R := _) (v := (.slice (some ⟨b32, 0, none⟩) 0 0)) (n := 0) (xs := []) (m := 1) (T := 84) (s := 5) (by_ := 24) (ys := cC (callI s)) rfl rfl rfl rfl (.row b32 0 0 [] [] rfl rfl (by decide) (Nat.le_refl 0)) (fun w hw => .row _ _ _ _ _ rfl (row_own (by repeat (first | exact .head _ | refine .tail _ ?_ | refine List.mem_append_right _ ?_)) w hw)) rfl (by omega) (by omega)) rfl rfl (by intro h; cases h) ?_
                rintro v55 _ ⟨G55, hV55, hn55, rfl⟩
                have hV9 : Vec 84 5 v55 (cs ++ [callI s]).length (flat cC (cs ++ [callI s])) G55 := hV55.as (by simp [hnil]) (by simp [flat, hnil])
                obtain ⟨bo, co, so, rfl, rfl, hz, hlc, hxc⟩ := hV9.full (by simp)
                refine d_heap (H' := [(bo, _), (b5, _)]) (fun _ h => h.sub (.cons_cons _ (.cons _ (.cons_cons _ (List.nil_sublist _))))) ?_
                refine d_light rfl rfl rfl rfl rfl ?_
                refine d_nil ?_
                refine c_seq ?_
                refine c_region ?_
                refine l_l rfl rfl rfl ?_
                refine l_l (by first | exact light_len rfl rfl | exact light_lens rfl rfl | rfl) rfl rfl ?_
                refine l_l rfl rfl rfl ?_
                refine l_nil ?_
                refine c_cond rfl (fun h4 => ?_) (fun h4 => ?_)
                · have hl13 : 1 ≤ (cs ++ [callI s]).length := by simp
                  refine c_region ?_
                  refine l_l rfl rfl rfl ?_
                  refine l_l (cut_slice (s := 5) 1 (cs ++ [callI s]).length rfl rfl rfl rfl rfl rfl hl13 hlc) rfl rfl ?_
                  refine l_l rfl rfl rfl ?_
                  refine l_nil ?_
                  refine c_seq ?_
                  refine c_region ?_
                  refine l_x (x_loadA rfl rfl rfl (by first | exact row_own (by repeat (first | exact .head _ | refine .tail _ ?_ | refine List.mem_append_right _ ?_)) | exact row_own_at (by repeat (first | exact .head _ | refine .tail _ ?_ | refine List.mem_append_right _ ?_)) _ 9 rfl)) rfl rfl ?_
                  rintro _ _ ⟨rfl, rfl⟩
                  refine l_x (x_val call_33 rfl (fun w hw => returns_fn s false (how_rets hpos) w)) rfl rfl ?_
                  rintro _ _ ⟨rfl, rfl⟩
                  refine l_l rfl rfl rfl ?_
                  refine l_p rfl rfl ?_
                  refine l_p rfl rfl ?_
                  refine l_p rfl rfl ?_
                  refine l_l rfl rfl rfl ?_
                  refine l_nil ?_
                  refine c_false rfl ?_
                  refine c_skip ?_
                  refine c_region ?_
                  refine l_as (v := (.int .i64 ((k + 1 : Nat) : Int))) rfl rfl rfl (congrArg _ (succ_law (by omega))) ?_
                  refine l_l rfl rfl rfl ?_
                  refine l_nil ?_
                  exact ⟨(k + 1, _, [(bo, _)]), ⟨by (try simp only [decide_eq_true_eq, decide_eq_false_iff_not, beq_iff_eq, beq_eq_false_iff_ne, bne_iff_ne, bne_eq_false_iff_eq, ne_eq] at *); omega, by dsimp only; rw [← callsL_take hg, hcs, noteC_how hpos, lay_yes hcl (by (try simp only [decide_eq_true_eq, decide_eq_false_iff_not, beq_iff_eq, beq_eq_false_iff_ne, bne_iff_ne, bne_eq_false_iff_eq, ne_eq] at *); omega)]; exact .of (by rw [List.length_drop]) (by rw [List.length_drop]; omega) ((RowsIn.own bo _ 84).left.dropE cC_len (by (try simp only [decide_eq_true_eq, decide_eq_false_iff_not, beq_iff_eq, beq_eq_false_iff_ne, bne_iff_ne, bne_eq_false_iff_eq, ne_eq] at *); omega) hlc)⟩, by (try simp only [decide_eq_true_eq, decide_eq_false_iff_not, beq_iff_eq, beq_eq_false_iff_ne, bne_iff_ne, bne_eq_false_iff_eq, ne_eq] at *); omega, .cons rfl (.cons rfl .nil), (by repeat (first | exact Agree.refl _ _ | exact Agree.mix rfl | refine Agree.put rfl ?_ | refine Agree.keep rfl ?_)), fun _ h => h.sub (.cons_cons _ (List.nil_sublist _))⟩
                · refine c_skip ?_
                  refine c_seq ?_
                  refine c_region ?_
                  refine l_x (x_loadA rfl rfl rfl (by first | exact row_own (by repeat (first | exact .head _ | refine .tail _ ?_ | refine List.mem_append_right _ ?_)) | exact row_own_at (by repeat (first | exact .head _ | refine .tail _ ?_ | refine List.mem_append_right _ ?_)) _ 9 rfl)) rfl rfl ?_
                  rintro _ _ ⟨rfl, rfl⟩
                  refine l_x (x_val call_33 rfl (fun w hw => returns_fn s false (how_rets hpos) w)) rfl rfl ?_
                  rintro _ _ ⟨rfl, rfl⟩
                  refine l_l rfl rfl rfl ?_
                  refine l_p rfl rfl ?_
                  refine l_p rfl rfl ?_
                  refine l_p rfl rfl ?_
                  refine l_l rfl rfl rfl ?_
                  refine l_nil ?_
                  refine c_false rfl ?_
                  refine c_skip ?_
                  refine c_region ?_
                  refine l_as (v := (.int .i64 ((k + 1 : Nat) : Int))) rfl rfl rfl (congrArg _ (succ_law (by omega))) ?_
                  refine l_l rfl rfl rfl ?_
                  refine l_nil ?_
                  exact ⟨(k + 1, _, [(bo, _)]), ⟨by (try simp only [decide_eq_true_eq, decide_eq_false_iff_not, beq_iff_eq, beq_eq_false_iff_ne, bne_iff_ne, bne_eq_false_iff_eq, ne_eq] at *); omega, by dsimp only; rw [← callsL_take hg, hcs, noteC_how hpos, lay_no (by (try simp only [decide_eq_true_eq, decide_eq_false_iff_not, beq_iff_eq, beq_eq_false_iff_ne, bne_iff_ne, bne_eq_false_iff_eq, ne_eq] at *); omega)]; exact .of rfl hlc (RowsIn.own bo _ 84).left⟩, by (try simp only [decide_eq_true_eq, decide_eq_false_iff_not, beq_iff_eq, beq_eq_false_iff_ne, bne_iff_ne, bne_eq_false_iff_eq, ne_eq] at *); omega, .cons rfl (.cons rfl .nil), (by repeat (first | exact Agree.refl _ _ | exact Agree.mix rfl | refine Agree.put rfl ?_ | refine Agree.keep rfl ?_)), fun _ h => h.sub (.cons_cons _ (List.nil_sublist _))⟩
              refine d_fork ?_ ?_
              · refine d_x rfl (x_slc rfl rfl rfl rfl rfl rfl) rfl rfl (by intro h; cases h) ?_
                rintro _ _ ⟨b54, rfl, rfl⟩
                refine d_x rfl (x_append0 rfl rfl rfl rfl (Nat.le_refl 0)) rfl rfl (by intro _ _ _ hK x hx; obtain ⟨rfl, rfl⟩ := hK; repeat (first | exact hx | exact List.mem_append_left _ hx | refine List.mem_append_right _ ?_ | refine .tail _ ?_)) ?_
                rintro _ _ ⟨rfl, rfl⟩
                refine d_x rfl (x_append (A := [(b54, _)]) (G := [(b32, blk [] 84)]) (R := _) (v := (.slice (some ⟨b32, 0, none⟩) 0 0)) (n := 0) (xs := []) (m := 1) (T := 84) (s := 5) (by_ := 24) (ys := cC (callI s)) rfl rfl rfl rfl (.row b32 0 0 [] [] rfl rfl (by decide) (Nat.le_refl 0)) (fun w hw => .row _ _ _ _ _ rfl (row_own (by repeat (first | exact .head _ | refine .tail _ ?_ | refine List.mem_append_right _ ?_)) w hw)) rfl (by omega) (by omega)) rfl rfl (by intro h; cases h) ?_
                rintro v55 _ ⟨G55, hV55, hn55, rfl⟩
                have hV9 : Vec 84 5 v55 (cs ++ [callI s]).length (flat cC (cs ++ [callI s])) G55 := hV55.as (by simp [hnil]) (by simp [flat, hnil])
                obtain ⟨bo, co, so, rfl, rfl, hz, hlc, hxc⟩ := hV9.full (by simp)
                refine d_heap (H' := [(bo, _), (b5, _)]) (fun _ h => h.sub (.cons_cons _ (.cons _ (.cons_cons _ (List.nil_sublist _))))) ?_
                refine d_light rfl rfl rfl rfl rfl ?_
                refine d_nil ?_
                refine c_seq ?_
                refine c_region ?_
                refine l_l rfl rfl rfl ?_
                refine l_l (by first | exact light_len rfl rfl | exact light_lens rfl rfl | rfl) rfl rfl ?_
                refine l_l rfl rfl rfl ?_
                refine l_nil ?_
                refine c_cond rfl (fun h5 => ?_) (fun h5 => ?_)
                · have hl13 : 1 ≤ (cs ++ [callI s]).length := by simp
                  refine c_region ?_
                  refine l_l rfl rfl rfl ?_
                  refine l_l (cut_slice (s := 5) 1 (cs ++ [callI s]).length rfl rfl rfl rfl rfl rfl hl13 hlc) rfl rfl ?_
                  refine l_l rfl rfl rfl ?_
                  refine l_nil ?_
                  refine c_seq ?_
                  refine c_region ?_
                  refine l_x (x_loadA rfl rfl rfl (by first | exact row_own (by repeat (first | exact .head _ | refine .tail _ ?_ | refine List.mem_append_right _ ?_)) | exact row_own_at (by repeat (first | exact .head _ | refine .tail _ ?_ | refine List.mem_append_right _ ?_)) _ 9 rfl)) rfl rfl ?_
                  rintro _ _ ⟨rfl, rfl⟩
                  refine l_x (x_val call_33 rfl (fun w hw => returns_fn s false (how_rets hpos) w)) rfl rfl ?_
                  rintro _ _ ⟨rfl, rfl⟩
                  refine l_l rfl rfl rfl ?_
                  refine l_p rfl rfl ?_
                  refine l_p rfl rfl ?_
                  refine l_p rfl rfl ?_
                  refine l_l rfl rfl rfl ?_
                  refine l_nil ?_
                  refine c_false rfl ?_
                  refine c_skip ?_
                  refine c_region ?_
                  refine l_as (v := (.int .i64 ((k + 1 : Nat) : Int))) rfl rfl rfl (congrArg _ (succ_law (by omega))) ?_
                  refine l_l rfl rfl rfl ?_
                  refine l_nil ?_
                  exact ⟨(k + 1, _, [(bo, _)]), ⟨by (try simp only [decide_eq_true_eq, decide_eq_false_iff_not, beq_iff_eq, beq_eq_false_iff_ne, bne_iff_ne, bne_eq_false_iff_eq, ne_eq] at *); omega, by dsimp only; rw [← callsL_take hg, hcs, noteC_how hpos, lay_yes hcl (by (try simp only [decide_eq_true_eq, decide_eq_false_iff_not, beq_iff_eq, beq_eq_false_iff_ne, bne_iff_ne, bne_eq_false_iff_eq, ne_eq] at *); omega)]; exact .of (by rw [List.length_drop]) (by rw [List.length_drop]; omega) ((RowsIn.own bo _ 84).left.dropE cC_len (by (try simp only [decide_eq_true_eq, decide_eq_false_iff_not, beq_iff_eq, beq_eq_false_iff_ne, bne_iff_ne, bne_eq_false_iff_eq, ne_eq] at *); omega) hlc)⟩, by (try simp only [decide_eq_true_eq, decide_eq_false_iff_not, beq_iff_eq, beq_eq_false_iff_ne, bne_iff_ne, bne_eq_false_iff_eq, ne_eq] at *); omega, .cons rfl (.cons rfl .nil), (by repeat (first | exact Agree.refl _ _ | exact Agree.mix rfl | refine Agree.put rfl ?_ | refine Agree.keep rfl ?_)), fun _ h => h.sub (.cons_cons _ (List.nil_sublist _))⟩
                · refine c_skip ?_
                  refine c_seq ?_
                  refine c_region ?_
                  refine l_x (x_loadA rfl rfl rfl (by first | exact row_own (by repeat (first | exact .head _ | refine .tail _ ?_ | refine List.mem_append_right _ ?_)) | exact row_own_at (by repeat (first | exact .head _ | refine .tail _ ?_ | refine List.mem_append_right _ ?_)) _ 9 rfl)) rfl rfl ?_
                  rintro _ _ ⟨rfl, rfl⟩
                  refine l_x (x_val call_33 rfl (fun w hw => returns_fn s false (how_rets hpos) w)) rfl rfl ?_
                  rintro _ _ ⟨rfl, rfl⟩
                  refine l_l rfl rfl rfl ?_
                  refine l_p rfl rfl ?_
                  refine l_p rfl rfl ?_
                  refine l_p rfl rfl ?_
                  refine l_l rfl rfl rfl ?_
                  refine l_nil ?_
                  refine c_false rfl ?_
                  refine c_skip ?_
                  refine c_region ?_
                  refine l_as (v := (.int .i64 ((k + 1 : Nat) : Int))) rfl rfl rfl (congrArg _ (succ_law (by omega))) ?_
                  refine l_l rfl rfl rfl ?_
                  refine l_nil ?_
                  exact ⟨(k + 1, _, [(bo, _)]), ⟨by (try simp only [decide_eq_true_eq, decide_eq_false_iff_not, beq_iff_eq, beq_eq_false_iff_ne, bne_iff_ne, bne_eq_false_iff_eq, ne_eq] at *); omega, by dsimp only; rw [← callsL_take hg, hcs, noteC_how hpos, lay_no (by (try simp only [decide_eq_true_eq, decide_eq_false_iff_not, beq_iff_eq, beq_eq_false_iff_ne, bne_iff_ne, bne_eq_false_iff_eq, ne_eq] at *); omega)]; exact .of rfl hlc (RowsIn.own bo _ 84).left⟩, by (try simp only [decide_eq_true_eq, decide_eq_false_iff_not, beq_iff_eq, beq_eq_false_iff_ne, bne_iff_ne, bne_eq_false_iff_eq, ne_eq] at *); omega, .cons rfl (.cons rfl .nil), (by repeat (first | exact Agree.refl _ _ | exact Agree.mix rfl | refine Agree.put rfl ?_ | refine Agree.keep rfl ?_)), fun _ h => h.sub (.cons_cons _ (List.nil_sublist _))⟩
              exact d_stop
            refine d_fork ?_ ?_
            · refine d_x rfl (x_slc rfl rfl rfl rfl rfl rfl) rfl rfl (by intro h; cases h) ?_
              rintro _ _ ⟨b54, rfl, rfl⟩
              refine d_x rfl (x_slc0 (el := 84) (n := 5) rfl) rfl rfl (by intro _ _ _ hK x hx; obtain ⟨_, rfl, rfl⟩ := hK; repeat (first | exact hx | exact List.mem_append_left _ hx | refine List.mem_append_right _ ?_ | refine .tail _ ?_)) ?_
              rintro _ _ ⟨b32, rfl, rfl⟩
              refine d_x rfl (x_append0 rfl rfl rfl rfl (Nat.le_refl 0)) rfl rfl (by intro _ _ _ hK x hx; obtain ⟨rfl, rfl⟩ := hK; repeat (first | exact hx | exact List.mem_append_left _ hx | refine List.mem_append_right _ ?_ | refine .tail _ ?_)) ?_
              rintro _ _ ⟨rfl, rfl⟩
              refine d_x rfl (x_append (A := []) (G := [(b32, blk [] 84)]) (R := _) (v := (.slice (some ⟨b32, 0, none⟩) 0 0)) (n := 0) (xs := []) (m := 1) (T := 84) (s := 5) (by_ := 24) (ys := cC (callI s)) rfl rfl rfl rfl (.row b32 0 0 [] [] rfl rfl (by decide) (Nat.le_refl 0)) (fun w hw => .row _ _ _ _ _ rfl (row_own (by repeat (first | exact .head _ | refine .tail _ ?_ | refine List.mem_append_right _ ?_)) w hw)) rfl (by omega) (by omega)) rfl rfl (by intro h; cases h) ?_
              rintro v55 _ ⟨G55, hV55, hn55, rfl⟩
              have hV9 : Vec 84 5 v55 (cs ++ [callI s]).length (flat cC (cs ++ [callI s])) G55 := hV55.as (by simp [hnil]) (by simp [flat, hnil])
              obtain ⟨bo, co, so, rfl, rfl, hz, hlc, hxc⟩ := hV9.full (by simp)
              refine d_heap (H' := [(bo, _), (b5, _)]) (fun _ h => h.sub (.cons_cons _ (.cons _ (.cons_cons _ (List.nil_sublist _))))) ?_
              refine d_light rfl rfl rfl rfl rfl ?_
              refine d_nil ?_
              refine c_seq ?_
              refine c_region ?_
              refine l_l rfl rfl rfl ?_
              refine l_l (by first | exact light_len rfl rfl | exact light_lens rfl rfl | rfl) rfl rfl ?_
              refine l_l rfl rfl rfl ?_
              refine l_nil ?_
              refine c_cond rfl (fun h6 => ?_) (fun h6 => ?_)
              · have hl13 : 1 ≤ (cs ++ [callI s]).length := by simp
                refine c_region ?_
                refine l_l rfl rfl rfl ?_
                refine l_l (cut_slice (s := 5) 1 (cs ++ [callI s]).length rfl rfl rfl rfl rfl rfl hl13 hlc) rfl rfl ?_
                refine l_l rfl rfl rfl ?_
                refine l_nil ?_
                refine c_seq ?_
                refine c_region ?_
                refine l_x (x_loadA rfl rfl rfl (by first | exact row_own (by repeat (first | exact .head _ | refine .tail _ ?_ | refine List.mem_append_right _ ?_)) | exact row_own_at (by repeat (first | exact .head _ | refine .tail _ ?_ | refine List.mem_append_right _ ?_)) _ 9 rfl)) rfl rfl ?_
                rintro _ _ ⟨rfl, rfl⟩
                refine l_x (x_val call_33 rfl (fun w hw => returns_fn s false (how_rets hpos) w)) rfl rfl ?_
                rintro _ _ ⟨rfl, rfl⟩
                refine l_l rfl rfl rfl ?_
                refine l_p rfl rfl ?_
                refine l_p rfl rfl ?_
                refine l_p rfl rfl ?_
                refine l_l rfl rfl rfl ?_
                refine l_nil ?_
                refine c_false rfl ?_
                refine c_skip ?_
                refine c_region ?_
                refine l_as (v := (.int .i64 ((k + 1 : Nat) : Int))) rfl rfl rfl (congrArg _ (succ_law (by omega))) ?_
                refine l_l rfl rfl rfl ?_
                refine l_nil ?_
                exact ⟨(k + 1, _, [(bo, _)]), ⟨by (try simp only [decide_eq_true_eq, decide_eq_false_iff_not, beq_iff_eq, beq_eq_false_iff_ne, bne_iff_ne, bne_eq_false_iff_eq, ne_eq] at *); omega, by dsimp only; rw [← callsL_take hg, hcs, noteC_how hpos, lay_yes hcl (by (try simp only [decide_eq_true_eq, decide_eq_false_iff_not, beq_iff_eq, beq_eq_false_iff_ne, bne_iff_ne, bne_eq_false_iff_eq, ne_eq] at *); omega)]; exact .of (by rw [List.length_drop]) (by rw [List.length_drop]; omega) ((RowsIn.own bo _ 84).left.dropE cC_len (by (try simp only [decide_eq_true_eq, decide_eq_false_iff_not, beq_iff_eq, beq_eq_false_iff_ne, bne_iff_ne, bne_eq_false_iff_eq, ne_eq] at *); omega) hlc)⟩, by (try simp only [decide_eq_true_eq, decide_eq_false_iff_not, beq_iff_eq, beq_eq_false_iff_ne, bne_iff_ne, bne_eq_false_iff_eq, ne_eq] at *); omega, .cons rfl (.cons rfl .nil), (by repeat (first | exact Agree.refl _ _ | exact Agree.mix rfl | refine Agree.put rfl ?_ | refine Agree.keep rfl ?_)), fun _ h => h.sub (.cons_cons _ (List.nil_sublist _))⟩
              · refine c_skip ?_
                refine c_seq ?_
                refine c_region ?_
                refine l_x (x_loadA rfl rfl rfl (by first | exact row_own (by repeat (first | exact .head _ | refine .tail _ ?_ | refine List.mem_append_right _ ?_)) | exact row_own_at (by repeat (first | exact .head _ | refine .tail _ ?_ | refine List.mem_append_right _ ?_)) _ 9 rfl)) rfl rfl ?_
                rintro _ _ ⟨rfl, rfl⟩
                refine l_x (x_val call_33 rfl (fun w hw => returns_fn s false (how_rets hpos) w)) rfl rfl ?_
                rintro _ _ ⟨rfl, rfl⟩
                refine l_l rfl rfl rfl ?_
                refine l_p rfl rfl ?_
                refine l_p rfl rfl ?_
                refine l_p rfl rfl ?_
                refine l_l rfl rfl rfl ?_
                refine l_nil ?_
                refine c_false rfl ?_
                refine c_skip ?_
                refine c_region ?_
                refine l_as (v := (.int .i64 ((k + 1 : Nat) : Int))) rfl rfl rfl (congrArg _ (succ_law (by omega))) ?_
                refine l_l rfl rfl rfl ?_
                refine l_nil ?_
                exact ⟨(k + 1, _, [(bo, _)]), ⟨by (try simp only [decide_eq_true_eq, decide_eq_false_iff_not, beq_iff_eq, beq_eq_false_iff_ne, bne_iff_ne, bne_eq_false_iff_eq, ne_eq] at *); omega, by dsimp only; rw [← callsL_take hg, hcs, noteC_how hpos, lay_no (by (try simp only [decide_eq_true_eq, decide_eq_false_iff_not, beq_iff_eq, beq_eq_false_iff_ne, bne_iff_ne, bne_eq_false_iff_eq, ne_eq] at *); omega)]; exact .of rfl hlc (RowsIn.own bo _ 84).left⟩, by (try simp only [decide_eq_true_eq, decide_eq_false_iff_not, beq_iff_eq, beq_eq_false_iff_ne, bne_iff_ne, bne_eq_false_iff_eq, ne_eq] at *); omega, .cons rfl (.cons rfl .nil), (by repeat (first | exact Agree.refl _ _ | exact Agree.mix rfl | refine Agree.put rfl ?_ | refine Agree.keep rfl ?_)), fun _ h => h.sub (.cons_cons _ (List.nil_sublist _))⟩
            exact d_stop
          · refine c_skip ?_
            refine c_seq ?_
            refine c_draw _ [0, 2, 9, 10, 11, 12, 13, 14, 15, 16, 17, 18, 19, 20] (.step true 1 (.step true 3 (.step true 4 (.step true 5 (.step true 6 (.step true 7 (.step true 8 (.step true 9 (.step true 10 (.step true 11 (.step true 12 (.step true 13 (.step true 14 (.step true 15 (.step true 16 (.step true 17 (.step true 18 (.step true 19 (.step true 20 (.step true 21 (.fork 0 (.fork 2 (.step false 22 (.step false 23 (.step true 24 .done))) (.fork 22 (.step false 2 (.step false 23 (.step true 24 .done))) .stop)) (.fork 22 (.step false 0 (.step false 2 (.step false 23 (.step true 24 .done)))) .stop)))))))))))))))))))))) rfl (by kernel_rfl) (by kernel_rfl) (fun _ h => h) ?_
            refine d_light rfl rfl rfl rfl rfl ?_
            refine d_light rfl rfl rfl rfl rfl ?_
            refine d_light rfl rfl rfl rfl rfl ?_
            refine d_light rfl rfl rfl rfl rfl ?_
            refine d_light rfl (idx_slice (s := 12) k rfl rfl rfl rfl (by (try simp only [decide_eq_true_eq, decide_eq_false_iff_not, beq_iff_eq, beq_eq_false_iff_ne, bne_iff_ne, bne_eq_false_iff_eq, ne_eq] at *); omega)) rfl rfl rfl ?_
            refine d_light rfl (light_fa rfl rfl) rfl rfl rfl ?_
            refine d_load rfl rfl rfl (fun w hw => (srow_old hr (by simp) w hw).at cS_len hg 1 rfl) rfl rfl ?_
            refine d_light rfl (light_fa rfl rfl) rfl rfl rfl ?_
            refine d_load rfl rfl rfl (s_own (by repeat (first | exact .head _ | refine .tail _ ?_ | refine List.mem_append_right _ ?_)) (by rfl)) rfl rfl ?_
            refine d_light rfl rfl rfl rfl rfl ?_
            refine d_light rfl rfl rfl rfl rfl ?_
            refine d_light rfl (idx_slice (s := 12) k rfl rfl rfl rfl (by (try simp only [decide_eq_true_eq, decide_eq_false_iff_not, beq_iff_eq, beq_eq_false_iff_ne, bne_iff_ne, bne_eq_false_iff_eq, ne_eq] at *); omega)) rfl rfl rfl ?_
            refine d_light rfl (light_fa rfl rfl) rfl rfl rfl ?_
            refine d_load rfl rfl rfl (fun w hw => (srow_old hr (by simp) w hw).at cS_len hg 11 rfl) rfl rfl ?_
            refine d_light rfl rfl rfl rfl rfl ?_
            refine d_light rfl (rem_pos rfl rfl (by decide)) rfl rfl rfl ?_
            refine d_light rfl rfl rfl rfl rfl ?_
            refine d_light rfl (rem_pos rfl rfl (by decide)) rfl rfl rfl ?_
            refine d_as (v := (.int .u16 (backI s))) rfl rfl rfl rfl rfl (congrArg _ (back_i hso (by (try simp only [decide_eq_true_eq, decide_eq_false_iff_not, beq_iff_eq, beq_eq_false_iff_ne, bne_iff_ne, bne_eq_false_iff_eq, ne_eq] at *); omega))) ?_
            refine d_light rfl (light_struct rfl rfl rfl rfl) rfl rfl rfl ?_
            refine d_fork ?_ ?_
            · refine d_x rfl (x_slc0 (el := 84) (n := 5) rfl) rfl rfl (by intro _ _ _ hK x hx; obtain ⟨_, rfl, rfl⟩ := hK; repeat (first | exact hx | exact List.mem_append_left _ hx | refine List.mem_append_right _ ?_ | refine .tail _ ?_)) ?_
              rintro _ _ ⟨b32, rfl, rfl⟩
              refine d_fork ?_ ?_
              · refine d_x rfl (x_append0 rfl rfl rfl rfl (Nat.le_refl 0)) rfl rfl (by intro _ _ _ hK x hx; obtain ⟨rfl, rfl⟩ := hK; repeat (first | exact hx | exact List.mem_append_left _ hx | refine List.mem_append_right _ ?_ | refine .tail _ ?_)) ?_
                rintro _ _ ⟨rfl, rfl⟩
                refine d_x rfl (x_slc rfl rfl rfl rfl rfl rfl) rfl rfl (by intro h; cases h) ?_
                rintro _ _ ⟨b54, rfl, rfl⟩
                refine d_x rfl (x_append (A := [(b54, _)]) (G := [(b32, blk [] 84)]) (R := _) (v := (.slice (some ⟨b32, 0, none⟩) 0 0)) (n := 0) (xs := []) (m := 1) (T := 84) (s := 5) (by_ := 24) (ys := cC (callI s)) rfl rfl rfl rfl (.row b32 0 0 [] [] rfl rfl (by decide) (Nat.le_refl 0)) (fun w hw => .row _ _ _ _ _ rfl (row_own (by repeat (first | exact .head _ | refine .tail _ ?_ | refine List.mem_append_right _ ?_)) w hw)) rfl (by omega) (by omega)) rfl rfl (by intro h; cases h) ?_
                rintro v55 _ ⟨G55, hV55, hn55, rfl⟩
                have hV9 : Vec 84 5 v55 (cs ++ [callI s]).length (flat cC (cs ++ [callI s])) G55 := hV55.as (by simp [hnil]) (by simp [flat, hnil])
                obtain ⟨bo, co, so, rfl, rfl, hz, hlc, hxc⟩ := hV9.full (by simp)
                refine d_heap (H' := [(bo, _), (b5, _)]) (fun _ h => h.sub (.cons_cons _ (.cons _ (.cons_cons _ (List.nil_sublist _))))) ?_
                refine d_light rfl rfl rfl rfl rfl ?_
                refine d_nil ?_
                refine c_seq ?_
                refine c_region ?_
                refine l_l rfl rfl rfl ?_
                refine l_l (by first | exact light_len rfl rfl | exact light_lens rfl rfl | rfl) rfl rfl ?_
                refine l_l rfl rfl rfl ?_
                refine l_nil ?_
                refine c_cond rfl (fun h7 => ?_) (fun h7 => ?_)
                · have hl13 : 1 ≤ (cs ++ [callI s]).length := by simp
                  refine c_region ?_
                  refine l_l rfl rfl rfl ?_
                  refine l_l (cut_slice (s := 5) 1 (cs ++ [callI s]).length rfl rfl rfl rfl rfl rfl hl13 hlc) rfl rfl ?_
                  refine l_l rfl rfl rfl ?_
                  refine l_nil ?_
                  refine c_seq ?_
                  refine c_region ?_
                  refine l_x (x_loadA rfl rfl rfl (by first | exact row_own (by repeat (first | exact .head _ | refine .tail _ ?_ | refine List.mem_append_right _ ?_)) | exact row_own_at (by repeat (first | exact .head _ | refine .tail _ ?_ | refine List.mem_append_right _ ?_)) _ 9 rfl)) rfl rfl ?_
                  rintro _ _ ⟨rfl, rfl⟩
                  refine l_x (x_val call_33 rfl (fun w hw => returns_fn s false (how_rets hpos) w)) rfl rfl ?_
                  rintro _ _ ⟨rfl, rfl⟩
                  refine l_l rfl rfl rfl ?_
                  refine l_p rfl rfl ?_
                  refine l_p rfl rfl ?_
                  refine l_p rfl rfl ?_
                  refine l_l rfl rfl rfl ?_
                  refine l_nil ?_
                  refine c_false rfl ?_
                  refine c_skip ?_
                  refine c_region ?_
                  refine l_as (v := (.int .i64 ((k + 1 : Nat) : Int))) rfl rfl rfl (congrArg _ (succ_law (by omega))) ?_
                  refine l_l rfl rfl rfl ?_
                  refine l_nil ?_
                  exact ⟨(k + 1, _, [(bo, _)]), ⟨by (try simp only [decide_eq_true_eq, decide_eq_false_iff_not, beq_iff_eq, beq_eq_false_iff_ne, bne_iff_ne, bne_eq_false_iff_eq, ne_eq] at *); omega, by dsimp only; rw [← callsL_take hg, hcs, noteC_how hpos, lay_yes hcl (by (try simp only [decide_eq_true_eq, decide_eq_false_iff_not, beq_iff_eq, beq_eq_false_iff_ne, bne_iff_ne, bne_eq_false_iff_eq, ne_eq] at *); omega)]; exact .of (by rw [List.length_drop]) (by rw [List.length_drop]; omega) ((RowsIn.own bo _ 84).left.dropE cC_len (by (try simp only [decide_eq_true_eq, decide_eq_false_iff_not, beq_iff_eq, beq_eq_false_iff_ne, bne_iff_ne, bne_eq_false_iff_eq, ne_eq] at *); omega) hlc)⟩, by (try simp only [decide_eq_true_eq, decide_eq_false_iff_not, beq_iff_eq, beq_eq_false_iff_ne, bne_iff_ne, bne_eq_false_iff_eq, ne_eq] at *); omega, .cons rfl (.cons rfl .nil), (by repeat (first | exact Agree.refl _ _ | exact Agree.mix rfl | refine Agree.put rfl ?_ | refine Agree.keep rfl ?_)), fun _ h => h.sub (.cons_cons _ (List.nil_sublist _))⟩
                · refine c_skip ?_
                  refine c_seq ?_
                  refine c_region ?_
                  refine l_x (x_loadA rfl rfl rfl (by first | exact row_own (by repeat (first | exact .head _ | refine .tail _ ?_ | refine List.mem_append_right _ ?_)) | exact row_own_at (by repeat (first | exact .head _ | refine .tail _ ?_ | refine List.mem_append_right _ ?_)) _ 9 rfl)) rfl rfl ?_
                  rintro _ _ ⟨rfl, rfl⟩
                  refine l_x (x_val call_33 rfl (fun w hw => returns_fn s false (how_rets hpos) w)) rfl rfl ?_
                  rintro _ _ ⟨rfl, rfl⟩
                  refine l_l rfl rfl rfl ?_
                  refine l_p rfl rfl ?_
                  refine l_p rfl rfl ?_
                  refine l_p rfl rfl ?_
                  refine l_l rfl rfl rfl ?_
                  refine l_nil ?_
                  refine c_false rfl ?_
                  refine c_skip ?_
                  refine c_region ?_
                  refine l_as (v := (.int .i64 ((k + 1 : Nat) : Int))) rfl rfl rfl (congrArg _ (succ_law (by omega))) ?_
                  refine l_l rfl rfl rfl ?_
                  refine l_nil ?_
                  exact ⟨(k + 1, _, [(bo, _)]), ⟨by (try simp only [decide_eq_true_eq, decide_eq_false_iff_not, beq_iff_eq, beq_eq_false_iff_ne, bne_iff_ne, bne_eq_false_iff_eq, ne_eq] at *); omega, by dsimp only; rw [← callsL_take hg, hcs, noteC_how hpos, lay_no (by (try simp only [decide_eq_true_eq, decide_eq_false_iff_not, beq_iff_eq, beq_eq_false_iff_ne, bne_iff_ne, bne_eq_false_iff_eq, ne_eq] at *); omega)]; exact .of rfl hlc (RowsIn.own bo _ 84).left⟩, by (try simp only [decide_eq_true_eq, decide_eq_false_iff_not, beq_iff_eq, beq_eq_false_iff_ne, bne_iff_ne, bne_eq_false_iff_eq, ne_eq] at *); omega, .cons rfl (.cons rfl .nil), (by repeat (first | exact Agree.refl _ _ | exact Agree.mix rfl | refine Agree.put rfl ?_ | refine Agree.keep rfl ?_)), fun _ h => h.sub (.cons_cons _ (List.nil_sublist _))⟩
              refine d_fork ?_ ?_
              · refine d_x rfl (x_slc rfl rfl rfl rfl rfl rfl) rfl rfl (by intro h; cases h) ?_
                rintro _ _ ⟨b54, rfl, rfl⟩
                refine d_x rfl (x_append0 rfl rfl rfl rfl (Nat.le_refl 0)) rfl rfl (by intro _ _ _ hK x hx; obtain ⟨rfl, rfl⟩ := hK; repeat (first | exact hx | exact List.mem_append_left _ hx | refine List.mem_append_right _ ?_ | refine .tail _ ?_)) ?_
                rintro _ _ ⟨rfl, rfl⟩
                refine d_x rfl (x_append (A := [(b54, _)]) (G := [(b32, blk [] 84)]) (R := _) (v := (.slice (some ⟨b32, 0, none⟩) 0 0)) (n := 0) (xs := []) (m := 1) (T := 84) (s := 5) (by_ := 24) (ys := cC (callI s)) rfl rfl rfl rfl (.row b32 0 0 [] [] rfl rfl (by decide) (Nat.le_refl 0)) (fun w hw => .row _ _ _ _ _ rfl (row_own (by repeat (first | exact .head _ | refine .tail _ ?_ | refine List.mem_append_right _ ?_)) w hw)) rfl (by omega) (by omega)) rfl rfl (by intro h; cases h) ?_
                rintro v55 _ ⟨G55, hV55, hn55, rfl⟩
                have hV9 : Vec 84 5 v55 (cs ++ [callI s]).length (flat cC (cs ++ [callI s])) G55 := hV55.as (by simp [hnil]) (by simp [flat, hnil])
                obtain ⟨bo, co, so, rfl, rfl, hz, hlc, hxc⟩ := hV9.full (by simp)
                refine d_heap (H' := [(bo, _), (b5, _)]) (fun _ h => h.sub (.cons_cons _ (.cons _ (.cons_cons _ (List.nil_sublist _))))) ?_
                refine d_light rfl rfl rfl rfl rfl ?_
                refine d_nil ?_
                refine c_seq ?_
                refine c_region ?_
                refine l_l rfl rfl rfl ?_
                refine l_l (by first | exact light_len rfl rfl | exact light_lens rfl rfl | rfl) rfl rfl ?_
                refine l_l rfl rfl rfl ?_
                refine l_nil ?_
                refine c_cond rfl (fun h8 => ?_) (fun h8 => ?_)
                · have hl13 : 1 ≤ (cs ++ [callI s]).length := by simp
                  refine c_region ?_
                  refine l_l rfl rfl rfl ?_
                  refine l_l (cut_slice (s := 5) 1 (cs ++ [callI s]).length rfl rfl rfl rfl rfl rfl hl13 hlc) rfl rfl ?_
                  refine l_l rfl rfl rfl ?_
                  refine l_nil ?_
                  refine c_seq ?_
                  refine c_region ?_
                  refine l_x (x_loadA rfl rfl rfl (by first | exact row_own (by repeat (first | exact .head _ | refine .tail _ ?_ | refine List.mem_append_right _ ?_)) | exact row_own_at (by repeat (first | exact .head _ | refine .tail _ ?_ | refine List.mem_append_right _ ?_)) _ 9 rfl)) rfl rfl ?_
                  rintro _ _ ⟨rfl, rfl⟩
                  refine l_x (x_val call_33 rfl (fun w hw => returns_fn s false (how_rets hpos) w)) rfl rfl ?_
                  rintro _ _ ⟨rfl, rfl⟩
                  refine l_l rfl rfl rfl ?_
                  refine l_p rfl rfl ?_
                  refine l_p rfl rfl ?_
                  refine l_p rfl rfl ?_
                  refine l_l rfl rfl rfl ?_
                  refine l_nil ?_
                  refine c_false rfl ?_
                  refine c_skip ?_
                  refine c_region ?_
                  refine l_as (v := (.int .i64 ((k + 1 : Nat) : Int))) rfl rfl rfl (congrArg _ (succ_law (by omega))) ?_
                  refine l_l rfl rfl rfl ?_
                  refine l_nil ?_
                  exact ⟨(k + 1, _, [(bo, _)]), ⟨by (try simp only [decide_eq_true_eq, decide_eq_false_iff_not, beq_iff_eq, beq_eq_false_iff_ne, bne_iff_ne, bne_eq_false_iff_eq, ne_eq] at *); omega, by dsimp only; rw [← callsL_take hg, hcs, noteC_how hpos, lay_yes hcl (by (try simp only [decide_eq_true_eq, decide_eq_false_iff_not, beq_iff_eq, beq_eq_false_iff_ne, bne_iff_ne, bne_eq_false_iff_eq, ne_eq] at *); omega)]; exact .of (by rw [List.length_drop]) (by rw [List.length_drop]; omega) ((RowsIn.own bo _ 84).left.dropE cC_len (by (try simp only [decide_eq_true_eq, decide_eq_false_iff_not, beq_iff_eq, beq_eq_false_iff_ne, bne_iff_ne, bne_eq_false_iff_eq, ne_eq] at *); omega) hlc)⟩, by (try simp only [decide_eq_true_eq, decide_eq_false_iff_not, beq_iff_eq, beq_eq_false_iff_ne, bne_iff_ne, bne_eq_false_iff_eq, ne_eq] at *); omega, .cons rfl (.cons rfl .nil), (by repeat (first | exact Agree.refl _ _ | exact Agree.mix rfl | refine Agree.put rfl ?_ | refine Agree.keep rfl ?_)), fun _ h => h.sub (.cons_cons _ (List.nil_sublist _))⟩
                · refine c_skip ?_
                  refine c_seq ?_
                  refine c_region ?_
                  refine l_x (x_loadA rfl rfl rfl (by first | exact row_own (by repeat (first | exact .head _ | refine .tail _ ?_ | refine List.mem_append_right _ ?_)) | exact row_own_at (by repeat (first | exact .head _ | refine .tail _ ?_ | refine List.mem_append_right _ ?_)) _ 9 rfl)) rfl rfl ?_
                  rintro _ _ ⟨rfl, rfl⟩
                  refine l_x (x_val call_33 rfl (fun w hw => returns_fn s false (how_rets hpos) w)) rfl rfl ?_
                  rintro _ _ ⟨rfl, rfl⟩
                  refine l_l rfl rfl rfl ?_
                  refine l_p rfl rfl ?_
                  refine l_p rfl rfl ?_
                  refine l_p rfl rfl ?_
                  refine l_l rfl rfl rfl ?_
                  refine l_nil ?_
                  refine c_false rfl ?_
                  refine c_skip ?_
                  refine c_region ?_
                  refine l_as (v := (.int .i64 ((k + 1 : Nat) : Int))) rfl rfl rfl (congrArg _ (succ_law (by omega))) ?_
                  refine l_l rfl rfl rfl ?_
                  refine l_nil ?_
                  exact ⟨(k + 1, _, [(bo, _)]), ⟨by (try simp only [decide_eq_true_eq, decide_eq_false_iff_not, beq_iff_eq, beq_eq_false_iff_ne, bne_iff_ne, bne_eq_false_iff_eq, ne_eq] at *); omega, by dsimp only; rw [← callsL_take hg, hcs, noteC_how hpos, lay_no (by (try simp only [decide_eq_true_eq, decide_eq_false_iff_not, beq_iff_eq, beq_eq_false_iff_ne, bne_iff_ne, bne_eq_false_iff_eq, ne_eq] at *); omega)]; exact .of rfl hlc (RowsIn.own bo _ 84).left⟩, by (try simp only [decide_eq_true_eq, decide_eq_false_iff_not, beq_iff_eq, beq_eq_false_iff_ne, bne_iff_ne, bne_eq_false_iff_eq, ne_eq] at *); omega, .cons rfl (.cons rfl .nil), (by repeat (first | exact Agree.refl _ _ | exact Agree.mix rfl | refine Agree.put rfl ?_ | refine Agree.keep rfl ?_)), fun _ h => h.sub (.cons_cons _ (List.nil_sublist _))⟩
              exact d_stop
            refine d_fork ?_ ?_
            · refine d_x rfl (x_slc rfl rfl rfl rfl rfl rfl) rfl rfl (by intro h; cases h) ?_
              rintro _ _ ⟨b54, rfl, rfl⟩
              refine d_x rfl (x_slc0 (el := 84) (n := 5) rfl) rfl rfl (by intro _ _ _ hK x hx; obtain ⟨_, rfl, rfl⟩ := hK; repeat (first | exact hx | exact List.mem_append_left _ hx | refine List.mem_append_right _ ?_ | refine .tail _ ?_)) ?_
              rintro _ _ ⟨b32, rfl, rfl⟩
              refine d_x rfl (x_append0 rfl rfl rfl rfl (Nat.le_refl 0)) rfl rfl (by intro _ _ _ hK x hx; obtain ⟨rfl, rfl⟩ := hK; repeat (first | exact hx | exact List.mem_append_left _ hx | refine List.mem_append_right _ ?_ | refine .tail _ ?_)) ?_
              rintro _ _ ⟨rfl, rfl⟩
              refine d_x rfl (x_append (A := []) (G := [(b32, blk [] 84)]) (R := _) (v := (.slice (some ⟨b32, 0, none⟩) 0 0)) (n := 0) (xs := []) (m := 1) (T := 84) (s := 5) (by_ := 24) (ys := cC (callI s)) rfl rfl rfl rfl (.row b32 0 0 [] [] rfl rfl (by decide) (Nat.le_refl 0)) (fun w hw => .row _ _ _ _ _ rfl (row_own (by repeat (first | exact .head _ | refine .tail _ ?_ | refine List.mem_append_right _ ?_)) w hw)) rfl (by omega) (by omega)) rfl rfl (by intro h; cases h) ?_
              rintro v55 _ ⟨G55, hV55, hn55, rfl⟩
              have hV9 : Vec 84 5 v55 (cs ++ [callI s]).length (flat cC (cs ++ [callI s])) G55 := hV55.as (by simp [hnil]) (by simp [flat, hnil])
              obtain ⟨bo, co, so, rfl, rfl, hz, hlc, hxc⟩ := hV9.full (by simp)
              refine d_heap (H' := [(bo, _), (b5, _)]) (fun _ h => h.sub (.cons_cons _ (.cons _ (.cons_cons _ (List.nil_sublist _))))) ?_
              refine d_light rfl rfl rfl rfl rfl ?_
              refine d_nil ?_
              refine c_seq ?_
              refine c_region ?_
              refine l_l rfl rfl rfl ?_
              refine l_l (by first | exact light_len rfl rfl | exact light_lens rfl rfl | rfl) rfl rfl ?_
              refine l_l rfl rfl rfl ?_
              refine l_nil ?_
              refine c_cond rfl (fun h9 => ?_) (fun h9 => ?_)
              · have hl13 : 1 ≤ (cs ++ [callI s]).length := by simp
                refine c_region ?_
                refine l_l rfl rfl rfl ?_
                refine l_l (cut_slice (s := 5) 1 (cs ++ [callI s]).length rfl rfl rfl rfl rfl rfl hl13 hlc) rfl rfl ?_
                refine l_l rfl rfl rfl ?_
                refine l_nil ?_
                refine c_seq ?_
                refine c_region ?_
                refine l_x (x_loadA rfl rfl rfl (by first | exact row_own (by repeat (first | exact .head _ | refine .tail _ ?_ | refine List.mem_append_right _ ?_)) | exact row_own_at (by repeat (first | exact .head _ | refine .tail _ ?_ | refine List.mem_append_right _ ?_)) _ 9 rfl)) rfl rfl ?_
                rintro _ _ ⟨rfl, rfl⟩
                refine l_x (x_val call_33 rfl (fun w hw => returns_fn s false (how_rets hpos) w)) rfl rfl ?_
                rintro _ _ ⟨rfl, rfl⟩
                refine l_l rfl rfl rfl ?_
                refine l_p rfl rfl ?_
                refine l_p rfl rfl ?_
                refine l_p rfl rfl ?_
                refine l_l rfl rfl rfl ?_
                refine l_nil ?_
                refine c_false rfl ?_
                refine c_skip ?_
                refine c_region ?_
                refine l_as (v := (.int .i64 ((k + 1 : Nat) : Int))) rfl rfl rfl (congrArg _ (succ_law (by omega))) ?_
                refine l_l rfl rfl rfl ?_
                refine l_nil ?_
                exact ⟨(k + 1, _, [(bo, _)]), ⟨by (try simp only [decide_eq_true_eq, decide_eq_false_iff_not, beq_iff_eq, beq_eq_false_iff_ne, bne_iff_ne, bne_eq_false_iff_eq, ne_eq] at *); omega, by dsimp only; rw [← callsL_take hg, hcs, noteC_how hpos, lay_yes hcl (by (try simp only [decide_eq_true_eq, decide_eq_false_iff_not, beq_iff_eq, beq_eq_false_iff_ne, bne_iff_ne, bne_eq_false_iff_eq, ne_eq] at *); omega)]; exact .of (by rw [List.length_drop]) (by rw [List.length_drop]; omega) ((RowsIn.own bo _ 84).left.dropE cC_len (by (try simp only [decide_eq_true_eq, decide_eq_false_iff_not, beq_iff_eq, beq_eq_false_iff_ne, bne_iff_ne, bne_eq_false_iff_eq, ne_eq] at *); omega) hlc)⟩, by (try simp only [decide_eq_true_eq, decide_eq_false_iff_not, beq_iff_eq, beq_eq_false_iff_ne, bne_iff_ne, bne_eq_false_iff_eq, ne_eq] at *); omega, .cons rfl (.cons rfl .nil), (by repeat (first | exact Agree.refl _ _ | exact Agree.mix rfl | refine Agree.put rfl ?_ | refine Agree.keep rfl ?_)), fun _ h => h.sub (.cons_cons _ (List.nil_sublist _))⟩
              · refine c_skip ?_
                refine c_seq ?_
                refine c_region ?_
                refine l_x (x_loadA rfl rfl rfl (by first | exact row_own (by repeat (first | exact .head _ | refine .tail _ ?_ | refine List.mem_append_right _ ?_)) | exact row_own_at (by repeat (first | exact .head _ | refine .tail _ ?_ | refine List.mem_append_right _ ?_)) _ 9 rfl)) rfl rfl ?_
                rintro _ _ ⟨rfl, rfl⟩
                refine l_x (x_val call_33 rfl (fun w hw => returns_fn s false (how_rets hpos) w)) rfl rfl ?_
                rintro _ _ ⟨rfl, rfl⟩
                refine l_l rfl rfl rfl ?_
                refine l_p rfl rfl ?_
                refine l_p rfl rfl ?_
                refine l_p rfl rfl ?_
                refine l_l rfl rfl rfl ?_
                refine l_nil ?_
                refine c_false rfl ?_
                refine c_skip ?_
                refine c_region ?_
                refine l_as (v := (.int .i64 ((k + 1 : Nat) : Int))) rfl rfl rfl (congrArg _ (succ_law (by omega))) ?_
                refine l_l rfl rfl rfl ?_
                refine l_nil ?_
                exact ⟨(k + 1, _, [(bo, _)]), ⟨by (try simp only [decide_eq_true_eq, decide_eq_false_iff_not, beq_iff_eq, beq_eq_false_iff_ne, bne_iff_ne, bne_eq_false_iff_eq, ne_eq] at *); omega, by dsimp only; rw [← callsL_take hg, hcs, noteC_how hpos, lay_no (by (try simp only [decide_eq_true_eq, decide_eq_false_iff_not, beq_iff_eq, beq_eq_false_iff_ne, bne_iff_ne, bne_eq_false_iff_eq, ne_eq] at *); omega)]; exact .of rfl hlc (RowsIn.own bo _ 84).left⟩, by (try simp only [decide_eq_true_eq, decide_eq_false_iff_not, beq_iff_eq, beq_eq_false_iff_ne, bne_iff_ne, bne_eq_false_iff_eq, ne_eq] at *); omega, .cons rfl (.cons rfl .nil), (by repeat (first | exact Agree.refl _ _ | exact Agree.mix rfl | refine Agree.put rfl ?_ | refine Agree.keep rfl ?_)), fun _ h => h.sub (.cons_cons _ (List.nil_sublist _))⟩
            exact d_stop
        · refine c_skip ?_
          refine c_seq ?_
          refine c_region ?_
          refine l_x (x_loadA rfl rfl rfl (by first | exact row_own (by repeat (first | exact .head _ | refine .tail _ ?_ | refine List.mem_append_right _ ?_)) | exact row_own_at (by repeat (first | exact .head _ | refine .tail _ ?_ | refine List.mem_append_right _ ?_)) _ 9 rfl)) rfl rfl ?_
          rintro _ _ ⟨rfl, rfl⟩
          refine l_x (x_val call_33 rfl (fun w hw => returns_fn s _ rfl w)) rfl rfl ?_
          rintro _ _ ⟨rfl, rfl⟩
          refine l_b rfl rfl rfl (fun h10 => ?_) (fun h10 => ?_)
          · refine l_l rfl rfl rfl ?_
            refine l_l (by first | exact light_len rfl rfl | exact light_lens rfl rfl | rfl) rfl rfl ?_
            refine l_sure false rfl rfl rfl rfl ?_
            refine l_l rfl rfl rfl ?_
            refine l_nil ?_
            refine c_false rfl ?_
            refine c_skip ?_
            refine c_region ?_
            refine l_as (v := (.int .i64 ((k + 1 : Nat) : Int))) rfl rfl rfl (congrArg _ (succ_law (by omega))) ?_
            refine l_l rfl rfl rfl ?_
            refine l_nil ?_
            exact ⟨(k + 1, _, []), ⟨by (try simp only [decide_eq_true_eq, decide_eq_false_iff_not, beq_iff_eq, beq_eq_false_iff_ne, bne_iff_ne, bne_eq_false_iff_eq, ne_eq] at *); omega, by dsimp only; rw [← callsL_take hg, hcs, noteC_rets0 (by (try simp only [decide_eq_true_eq, decide_eq_false_iff_not, beq_iff_eq, beq_eq_false_iff_ne, bne_iff_ne, bne_eq_false_iff_eq, ne_eq] at *); omega) (by (try simp only [decide_eq_true_eq, decide_eq_false_iff_not, beq_iff_eq, beq_eq_false_iff_ne, bne_iff_ne, bne_eq_false_iff_eq, ne_eq] at *); omega) (by rw [hnil]; simp)]; exact hS⟩, by (try simp only [decide_eq_true_eq, decide_eq_false_iff_not, beq_iff_eq, beq_eq_false_iff_ne, bne_iff_ne, bne_eq_false_iff_eq, ne_eq] at *); omega, .cons rfl (.cons rfl .nil), (by repeat (first | exact Agree.refl _ _ | exact Agree.mix rfl | refine Agree.put rfl ?_ | refine Agree.keep rfl ?_)), fun _ h => h.sub (List.sublist_cons_self _ _)⟩
          · refine l_p rfl rfl ?_
            refine l_p rfl rfl ?_
            refine l_p rfl rfl ?_
            refine l_l rfl rfl rfl ?_
            refine l_nil ?_
            refine c_false rfl ?_
            refine c_skip ?_
            refine c_region ?_
            refine l_as (v := (.int .i64 ((k + 1 : Nat) : Int))) rfl rfl rfl (congrArg _ (succ_law (by omega))) ?_
            refine l_l rfl rfl rfl ?_
            refine l_nil ?_
            exact ⟨(k + 1, _, []), ⟨by (try simp only [decide_eq_true_eq, decide_eq_false_iff_not, beq_iff_eq, beq_eq_false_iff_ne, bne_iff_ne, bne_eq_false_iff_eq, ne_eq] at *); omega, by dsimp only; rw [← callsL_take hg, hcs, noteC_no (by (try simp only [decide_eq_true_eq, decide_eq_false_iff_not, beq_iff_eq, beq_eq_false_iff_ne, bne_iff_ne, bne_eq_false_iff_eq, ne_eq] at *); omega) (by (try simp only [decide_eq_true_eq, decide_eq_false_iff_not, beq_iff_eq, beq_eq_false_iff_ne, bne_iff_ne, bne_eq_false_iff_eq, ne_eq] at *); omega)]; exact hS⟩, by (try simp only [decide_eq_true_eq, decide_eq_false_iff_not, beq_iff_eq, beq_eq_false_iff_ne, bne_iff_ne, bne_eq_false_iff_eq, ne_eq] at *); omega, .cons rfl (.cons rfl .nil), (by repeat (first | exact Agree.refl _ _ | exact Agree.mix rfl | refine Agree.put rfl ?_ | refine Agree.keep rfl ?_)), fun _ h => h.sub (List.sublist_cons_self _ _)⟩
      · refine c_exit rfl ?_
        refine c_seq ?_
        refine c_region ?_
        refine l_l rfl rfl rfl ?_
        refine l_l rfl rfl rfl ?_
        refine l_nil ?_
        refine c_ret ?_
        obtain rfl : k = l.length := by (try simp only [decide_eq_true_eq, decide_eq_false_iff_not, beq_iff_eq, beq_eq_false_iff_ne, bne_iff_ne, bne_eq_false_iff_eq, ne_eq] at *); omega
        rw [List.take_length] at hcs
        exact l_end (fun _ _ => rets_v rfl) (List.sublist_append_left _ _) (by rw [hcs]; exact hS)
    · refine c_region ?_
      refine l_l rfl rfl rfl ?_
      refine l_nil ?_
      refine c_seq ?_
      refine c_cond rfl (fun h11 => ?_) (fun h11 => ?_)
      · refine c_skip ?_
        refine c_seq ?_
        refine c_block ?_
        refine c_seq ?_
        refine c_region ?_
        refine l_l rfl rfl rfl ?_
        refine l_l rfl rfl rfl ?_
        refine l_nil ?_
        refine c_seq ?_
        obtain ⟨bl, ol, rfl, hr⟩ := hE.row (i := k) (by (try simp only [decide_eq_true_eq, decide_eq_false_iff_not, beq_iff_eq, beq_eq_false_iff_ne, bne_iff_ne, bne_eq_false_iff_eq, ne_eq] at *); omega)
        obtain ⟨s, hg⟩ : ∃ s, l[k]? = some s := ⟨_, get_some (by (try simp only [decide_eq_true_eq, decide_eq_false_iff_not, beq_iff_eq, beq_eq_false_iff_ne, bne_iff_ne, bne_eq_false_iff_eq, ne_eq] at *); omega)⟩
        have hso := hok s (List.mem_of_getElem? hg)
        refine c_region ?_
        refine l_l rfl rfl rfl ?_
        refine l_l rfl rfl rfl ?_
        refine l_l (idx_slice (s := 12) k rfl rfl rfl rfl (by (try simp only [decide_eq_true_eq, decide_eq_false_iff_not, beq_iff_eq, beq_eq_false_iff_ne, bne_iff_ne, bne_eq_false_iff_eq, ne_eq] at *); omega)) rfl rfl ?_
        refine l_l (light_fa rfl rfl) rfl rfl ?_
        refine l_x (x_loadA rfl rfl rfl (fun w hw => (row_old hr (by simp) w hw).part cS_len hg 2 9 rfl)) rfl rfl ?_
        rintro _ _ ⟨rfl, rfl⟩
        refine l_x (x_alloc rfl) rfl rfl ?_
        rintro _ _ ⟨b5, rfl, rfl⟩
        refine l_x (by first | exact x_store 0 rfl rfl rfl rfl rfl rfl (by first | rfl | exact Nat.le_of_ble_eq_true rfl | (simp; done)) | exact x_store 1 rfl rfl rfl rfl rfl rfl (by first | rfl | exact Nat.le_of_ble_eq_true rfl | (simp; done)) | exact x_store 2 rfl rfl rfl rfl rfl rfl (by first | rfl | exact Nat.le_of_ble_eq_true rfl | (simp; done)) | exact x_store 3 rfl rfl rfl rfl rfl rfl (by first | rfl | exact Nat.le_of_ble_eq_true rfl | (simp; done))) rfl rfl ?_
        rintro _ _ ⟨rfl, rfl⟩
        refine l_nil ?_
        refine c_seq ?_
        refine c_region ?_
        refine l_x (x_loadA rfl rfl rfl (by first | exact row_own (by repeat (first | exact .head _ | refine .tail _ ?_ | refine List.mem_append_right _ ?_)) | exact row_own_at (by repeat (first | exact .head _ | refine .tail _ ?_ | refine List.mem_append_right _ ?_)) _ 9 rfl)) rfl rfl ?_
        rintro _ _ ⟨rfl, rfl⟩
        refine l_x (x_val call_32 rfl (fun w hw => how_fn s w)) rfl rfl ?_
        rintro _ _ ⟨rfl, rfl⟩
        refine l_l rfl rfl rfl ?_
        refine l_nil ?_
        refine c_seq ?_
        refine c_seq ?_
        refine c_region ?_
        refine l_l rfl rfl rfl ?_
        refine l_l rfl rfl rfl ?_
        refine l_nil ?_
        refine c_cond rfl (fun h12 => ?_) (fun h12 => ?_)
        · refine c_seq ?_
          have hpos : 0 < howI s := by (try simp only [decide_eq_true_eq, decide_eq_false_iff_not, beq_iff_eq, beq_eq_false_iff_ne, bne_iff_ne, bne_eq_false_iff_eq, ne_eq] at *); omega
          refine c_region ?_
          refine l_l (light_fa rfl rfl) rfl rfl ?_
          refine l_x (x_load rfl rfl (at_own (by repeat (first | exact .head _ | refine .tail _ ?_ | refine List.mem_append_right _ ?_)) (by rfl))) rfl rfl ?_
          rintro _ _ ⟨rfl, rfl⟩
          refine l_as (v := (.int .i64 s.at_)) rfl rfl rfl (congrArg _ (wrap_i64 (by have := hso.at0; omega) (by have := hso.at0; omega))) ?_
          refine l_l rfl rfl rfl ?_
          refine l_nil ?_
          refine c_seq ?_
          refine c_seq ?_
          refine c_region ?_
          refine l_l rfl rfl rfl ?_
          refine l_l rfl rfl rfl ?_
          refine l_nil ?_
          refine c_cond rfl (fun h13 => ?_) (fun h13 => ?_)
          · refine c_region ?_
            refine l_l rfl rfl rfl ?_
            refine l_l (light_fa rfl rfl) rfl rfl ?_
            refine l_l (light_fa rfl rfl) rfl rfl ?_
            refine l_x (x_load rfl rfl (at_own (by repeat (first | exact .head _ | refine .tail _ ?_ | refine List.mem_append_right _ ?_)) (by rfl))) rfl rfl ?_
            rintro _ _ ⟨rfl, rfl⟩
            refine l_l rfl rfl rfl ?_
            refine l_l rfl rfl rfl ?_
            refine l_nil ?_
            refine c_seq ?_
            refine c_draw _ [0, 2, 9, 10, 11, 12, 13, 14, 15, 16, 17, 18, 19, 20] (.step true 1 (.step true 3 (.step true 4 (.step true 5 (.step true 6 (.step true 7 (.step true 8 (.step true 9 (.step true 10 (.step true 11 (.step true 12 (.step true 13 (.step true 14 (.step true 15 (.step true 16 (.step true 17 (.step true 18 (.step true 19 (.step true 20 (.step true 21 (.fork 0 (.fork 2 (.step false 22 (.step false 23 (.step true 24 .done))) (.fork 22 (.step false 2 (.step false 23 (.step true 24 .done))) .stop)) (.fork 22 (.step false 0 (.step false 2 (.step false 23 (.step true 24 .done)))) .stop)))))))))))))))))))))) rfl (by kernel_rfl) (by kernel_rfl) (fun _ h => h) ?_
            refine d_light rfl rfl rfl rfl rfl ?_
            refine d_light rfl rfl rfl rfl rfl ?_
            refine d_light rfl rfl rfl rfl rfl ?_
            refine d_light rfl rfl rfl rfl rfl ?_
            refine d_light rfl (idx_slice (s := 12) k rfl rfl rfl rfl (by (try simp only [decide_eq_true_eq, decide_eq_false_iff_not, beq_iff_eq, beq_eq_false_iff_ne, bne_iff_ne, bne_eq_false_iff_eq, ne_eq] at *); omega)) rfl rfl rfl ?_
            refine d_light rfl (light_fa rfl rfl) rfl rfl rfl ?_
            refine d_load rfl rfl rfl (fun w hw => (srow_old hr (by simp) w hw).at cS_len hg 1 rfl) rfl rfl ?_
            refine d_light rfl (light_fa rfl rfl) rfl rfl rfl ?_
            refine d_load rfl rfl rfl (s_own (by repeat (first | exact .head _ | refine .tail _ ?_ | refine List.mem_append_right _ ?_)) (by rfl)) rfl rfl ?_
            refine d_light rfl rfl rfl rfl rfl ?_
            refine d_light rfl rfl rfl rfl rfl ?_
            refine d_light rfl (idx_slice (s := 12) k rfl rfl rfl rfl (by (try simp only [decide_eq_true_eq, decide_eq_false_iff_not, beq_iff_eq, beq_eq_false_iff_ne, bne_iff_ne, bne_eq_false_iff_eq, ne_eq] at *); omega)) rfl rfl rfl ?_
            refine d_light rfl (light_fa rfl rfl) rfl rfl rfl ?_
            refine d_load rfl rfl rfl (fun w hw => (srow_old hr (by simp) w hw).at cS_len hg 11 rfl) rfl rfl ?_
            refine d_light rfl rfl rfl rfl rfl ?_
            refine d_light rfl (rem_pos rfl rfl (by decide)) rfl rfl rfl ?_
            refine d_light rfl rfl rfl rfl rfl ?_
            refine d_light rfl (rem_pos rfl rfl (by decide)) rfl rfl rfl ?_
            refine d_as (v := (.int .u16 (backI s))) rfl rfl rfl rfl rfl (congrArg _ (back_c (by (try simp only [decide_eq_true_eq, decide_eq_false_iff_not, beq_iff_eq, beq_eq_false_iff_ne, bne_iff_ne, bne_eq_false_iff_eq, ne_eq] at *); omega))) ?_
            refine d_light rfl (light_struct rfl rfl rfl rfl) rfl rfl rfl ?_
            refine d_fork ?_ ?_
            · refine d_x rfl (x_slc0 (el := 84) (n := 5) rfl) rfl rfl (by intro _ _ _ hK x hx; obtain ⟨_, rfl, rfl⟩ := hK; repeat (first | exact hx | exact List.mem_append_left _ hx | refine List.mem_append_right _ ?_ | refine .tail _ ?_)) ?_
              rintro _ _ ⟨b32, rfl, rfl⟩
              refine d_fork ?_ ?_
              · refine d_x rfl (x_append (A := []) (G := [(b32, blk [] 84)]) (R := _) (v := (.slice (some ⟨b32, 0, none⟩) 0 0)) (n := 0) (xs := []) (m := cs.length) (T := 84) (s := 5) (by_ := 24) (ys := flat cC cs) rfl rfl rfl rfl (.row b32 0 0 [] [] rfl rfl (by decide) (Nat.le_refl 0)) (fun w hw => .row _ _ _ _ _ (flat_len cC_len _) (hr9.row (fun x hx => by simp [hx]) w hw)) (ones_flat_of ones_C _) (by omega) (by omega)) rfl rfl (by intro _ _ _ hK x hx; obtain ⟨G34, hV34, hn34, rfl⟩ := hK; repeat (first | exact hx | exact List.mem_append_left _ hx | refine List.mem_append_right _ ?_ | refine .tail _ ?_)) ?_
                rintro v34 _ ⟨G34, hV34, hn34, rfl⟩
                obtain ⟨a34, c34, rfl⟩ := hV34.slice
                refine d_x rfl (x_slc rfl rfl rfl rfl rfl rfl) rfl rfl (by intro h; cases h) ?_
                rintro _ _ ⟨b54, rfl, rfl⟩
                refine d_x rfl (x_append (A := [(b54, _)]) (G := G34) (R := _) (v := (.slice a34 (0 + cs.length) c34)) (n := (0 + cs.length)) (xs := ([] ++ flat cC cs)) (m := 1) (T := 84) (s := 5) (by_ := 24) (ys := cC (callI s)) rfl rfl rfl rfl hV34 (fun w hw => .row _ _ _ _ _ rfl (row_own (by repeat (first | exact .head _ | refine .tail _ ?_ | refine List.mem_append_right _ ?_)) w hw)) rfl (by omega) (by omega)) rfl rfl (by intro h; cases h) ?_
                rintro v55 _ ⟨G55, hV55, hn55, rfl⟩
                have hV9 : Vec 84 5 v55 (cs ++ [callI s]).length (flat cC (cs ++ [callI s])) G55 := hV55.as (by simp) (by simp [flat])
                obtain ⟨bo, co, so, rfl, rfl, hz, hlc, hxc⟩ := hV9.full (by simp)
                refine d_heap (H' := [(bo, _), (b5, _)]) (fun _ h => h.sub (.cons_cons _ (.cons _ (.cons_cons _ (List.nil_sublist _))))) ?_
                refine d_light rfl rfl rfl rfl rfl ?_
                refine d_nil ?_
                refine c_seq ?_
                refine c_region ?_
                refine l_l rfl rfl rfl ?_
                refine l_l (by first | exact light_len rfl rfl | exact light_lens rfl rfl | rfl) rfl rfl ?_
                refine l_l rfl rfl rfl ?_
                refine l_nil ?_
                refine c_cond rfl (fun h14 => ?_) (fun h14 => ?_)
                · have hl13 : 1 ≤ (cs ++ [callI s]).length := by simp
                  refine c_region ?_
                  refine l_l rfl rfl rfl ?_
                  refine l_l (cut_slice (s := 5) 1 (cs ++ [callI s]).length rfl rfl rfl rfl rfl rfl hl13 hlc) rfl rfl ?_
                  refine l_l rfl rfl rfl ?_
                  refine l_nil ?_
                  refine c_seq ?_
                  refine c_region ?_
                  refine l_x (x_loadA rfl rfl rfl (by first | exact row_own (by repeat (first | exact .head _ | refine .tail _ ?_ | refine List.mem_append_right _ ?_)) | exact row_own_at (by repeat (first | exact .head _ | refine .tail _ ?_ | refine List.mem_append_right _ ?_)) _ 9 rfl)) rfl rfl ?_
                  rintro _ _ ⟨rfl, rfl⟩
                  refine l_x (x_val call_33 rfl (fun w hw => returns_fn s false (how_rets hpos) w)) rfl rfl ?_
                  rintro _ _ ⟨rfl, rfl⟩
                  refine l_l rfl rfl rfl ?_
                  refine l_p rfl rfl ?_
                  refine l_p rfl rfl ?_
                  refine l_p rfl rfl ?_
                  refine l_l rfl rfl rfl ?_
                  refine l_nil ?_
                  refine c_false rfl ?_
                  refine c_skip ?_
                  refine c_region ?_
                  refine l_as (v := (.int .i64 ((k + 1 : Nat) : Int))) rfl rfl rfl (congrArg _ (succ_law (by omega))) ?_
                  refine l_l rfl rfl rfl ?_
                  refine l_nil ?_
                  exact ⟨(k + 1, _, [(bo, _)]), ⟨by (try simp only [decide_eq_true_eq, decide_eq_false_iff_not, beq_iff_eq, beq_eq_false_iff_ne, bne_iff_ne, bne_eq_false_iff_eq, ne_eq] at *); omega, by dsimp only; rw [← callsL_take hg, hcs, noteC_how hpos, lay_yes hcl (by (try simp only [decide_eq_true_eq, decide_eq_false_iff_not, beq_iff_eq, beq_eq_false_iff_ne, bne_iff_ne, bne_eq_false_iff_eq, ne_eq] at *); omega)]; exact .of (by rw [List.length_drop]) (by rw [List.length_drop]; omega) ((RowsIn.own bo _ 84).left.dropE cC_len (by (try simp only [decide_eq_true_eq, decide_eq_false_iff_not, beq_iff_eq, beq_eq_false_iff_ne, bne_iff_ne, bne_eq_false_iff_eq, ne_eq] at *); omega) hlc)⟩, by (try simp only [decide_eq_true_eq, decide_eq_false_iff_not, beq_iff_eq, beq_eq_false_iff_ne, bne_iff_ne, bne_eq_false_iff_eq, ne_eq] at *); omega, .cons rfl (.cons rfl .nil), (by repeat (first | exact Agree.refl _ _ | exact Agree.mix rfl | refine Agree.put rfl ?_ | refine Agree.keep rfl ?_)), fun _ h => h.sub (.cons_cons _ (List.nil_sublist _))⟩
                · refine c_skip ?_
                  refine c_seq ?_
                  refine c_region ?_
                  refine l_x (x_loadA rfl rfl rfl (by first | exact row_own (by repeat (first | exact .head _ | refine .tail _ ?_ | refine List.mem_append_right _ ?_)) | exact row_own_at (by repeat (first | exact .head _ | refine .tail _ ?_ | refine List.mem_append_right _ ?_)) _ 9 rfl)) rfl rfl ?_
                  rintro _ _ ⟨rfl, rfl⟩
                  refine l_x (x_val call_33 rfl (fun w hw => returns_fn s false (how_rets hpos) w)) rfl rfl ?_
                  rintro _ _ ⟨rfl, rfl⟩
                  refine l_l rfl rfl rfl ?_
                  refine l_p rfl rfl ?_
                  refine l_p rfl rfl ?_
                  refine l_p rfl rfl ?_
                  refine l_l rfl rfl rfl ?_
                  refine l_nil ?_
                  refine c_false rfl ?_
                  refine c_skip ?_
                  refine c_region ?_
                  refine l_as (v := (.int .i64 ((k + 1 : Nat) : Int))) rfl rfl rfl (congrArg _ (succ_law (by omega))) ?_
                  refine l_l rfl rfl rfl ?_
                  refine l_nil ?_
                  exact ⟨(k + 1, _, [(bo, _)]), ⟨by (try simp only [decide_eq_true_eq, decide_eq_false_iff_not, beq_iff_eq, beq_eq_false_iff_ne, bne_iff_ne, bne_eq_false_iff_eq, ne_eq] at *); omega, by dsimp only; rw [← callsL_take hg, hcs, noteC_how hpos, lay_no (by (try simp only [decide_eq_true_eq, decide_eq_false_iff_not, beq_iff_eq, beq_eq_false_iff_ne, bne_iff_ne, bne_eq_false_iff_eq, ne_eq] at *); omega)]; exact .of rfl hlc (RowsIn.own bo _ 84).left⟩, by (try simp only [decide_eq_true_eq, decide_eq_false_iff_not, beq_iff_eq, beq_eq_false_iff_ne, bne_iff_ne, bne_eq_false_iff_eq, ne_eq] at *); omega, .cons rfl (.cons rfl .nil), (by repeat (first | exact Agree.refl _ _ | exact Agree.mix rfl | refine Agree.put rfl ?_ | refine Agree.keep rfl ?_)), fun _ h => h.sub (.cons_cons _ (List.nil_sublist _))⟩
              refine d_fork ?_ ?_
              · refine d_x rfl (x_slc rfl rfl rfl rfl rfl rfl) rfl rfl (by intro h; cases h) ?_
                rintro _ _ ⟨b54, rfl, rfl⟩
                refine d_x rfl (x_append (A := [(b54, _)]) (G := [(b32, blk [] 84)]) (R := _) (v := (.slice (some ⟨b32, 0, none⟩) 0 0)) (n := 0) (xs := []) (m := cs.length) (T := 84) (s := 5) (by_ := 24) (ys := flat cC cs) rfl rfl rfl rfl (.row b32 0 0 [] [] rfl rfl (by decide) (Nat.le_refl 0)) (fun w hw => .row _ _ _ _ _ (flat_len cC_len _) (hr9.row (fun x hx => by simp [hx]) w hw)) (ones_flat_of ones_C _) (by omega) (by omega)) rfl rfl (by intro _ _ _ hK x hx; obtain ⟨G34, hV34, hn34, rfl⟩ := hK; repeat (first | exact hx | exact List.mem_append_left _ hx | refine List.mem_append_right _ ?_ | refine .tail _ ?_)) ?_
                rintro v34 _ ⟨G34, hV34, hn34, rfl⟩
                obtain ⟨a34, c34, rfl⟩ := hV34.slice
                refine d_x rfl (x_append (A := []) (G := G34) (R := _) (v := (.slice a34 (0 + cs.length) c34)) (n := (0 + cs.length)) (xs := ([] ++ flat cC cs)) (m := 1) (T := 84) (s := 5) (by_ := 24) (ys := cC (callI s)) rfl rfl rfl rfl hV34 (fun w hw => .row _ _ _ _ _ rfl (row_own (by repeat (first | exact .head _ | refine .tail _ ?_ | refine List.mem_append_right _ ?_)) w hw)) rfl (by omega) (by omega)) rfl rfl (by intro h; cases h) ?_
                rintro v55 _ ⟨G55, hV55, hn55, rfl⟩
                have hV9 : Vec 84 5 v55 (cs ++ [callI s]).length (flat cC (cs ++ [callI s])) G55 := hV55.as (by simp) (by simp [flat])
                obtain ⟨bo, co, so, rfl, rfl, hz, hlc, hxc⟩ := hV9.full (by simp)
                refine d_heap (H' := [(bo, _), (b5, _)]) (fun _ h => h.sub (.cons_cons _ (.cons _ (.cons_cons _ (List.nil_sublist _))))) ?_
                refine d_light rfl rfl rfl rfl rfl ?_
                refine d_nil ?_
                refine c_seq ?_
                refine c_region ?_
                refine l_l rfl rfl rfl ?_
                refine l_l (by first | exact light_len rfl rfl | exact light_lens rfl rfl | rfl) rfl rfl ?_
                refine l_l rfl rfl rfl ?_
                refine l_nil ?_
                refine c_cond rfl (fun h15 => ?_) (fun h15 => ?_)
                · have hl13 : 1 ≤ (cs ++ [callI s]).length := by simp
                  refine c_region ?_
                  refine l_l rfl rfl rfl ?_
                  refine l_l (cut_slice (s := 5) 1 (cs ++ [callI s]).length rfl rfl rfl rfl rfl rfl hl13 hlc) rfl rfl ?_
                  refine l_l rfl rfl rfl ?_
                  refine l_nil ?_
                  refine c_seq ?_
                  refine c_region ?_
                  refine l_x (x_loadA rfl rfl rfl (by first | exact row_own (by repeat (first | exact .head _ | refine .tail _ ?_ | refine List.mem_append_right _ ?_)) | exact row_own_at (by repeat (first | exact .head _ | refine .tail _ ?_ | refine List.mem_append_right _ ?_)) _ 9 rfl)) rfl rfl ?_
                  rintro _ _ ⟨rfl, rfl⟩
                  refine l_x (x_val call_33 rfl (fun w hw => returns_fn s false (how_rets hpos) w)) rfl rfl ?_
                  rintro _ _ ⟨rfl, rfl⟩
                  refine l_l rfl rfl rfl ?_
                  refine l_p rfl rfl ?_
                  refine l_p rfl rfl ?_
                  refine l_p rfl rfl ?_
                  refine l_l rfl rfl rfl ?_
                  refine l_nil ?_
                  refine c_false rfl ?_
                  refine c_skip ?_
                  refine c_region ?_
                  refine l_as (v := (.int .i64 ((k + 1 : Nat) : Int))) rfl rfl rfl (congrArg _ (succ_law (by omega))) ?_
                  refine l_l rfl rfl rfl ?_
                  refine l_nil ?_
                  exact ⟨(k + 1, _, [(bo, _)]), ⟨by (try simp only [decide_eq_true_eq, decide_eq_false_iff_not, beq_iff_eq, beq_eq_false_iff_ne, bne_iff_ne, bne_eq_false_iff_eq, ne_eq] at *); omega, by dsimp only; rw [← callsL_take hg, hcs, noteC_how hpos, lay_yes hcl (by (try simp only [decide_eq_true_eq, decide_eq_false_iff_not, beq_iff_eq, beq_eq_false_iff_ne, bne_iff_ne, bne_eq_false_iff_eq, ne_eq] at *); omega)]; exact .of (by rw [List.length_drop]) (by rw [List.length_drop]; omega) ((RowsIn.own bo _ 84).left.dropE cC_len (by (try simp only [decide_eq_true_eq, decide_eq_false_iff_not, beq_iff_eq, beq_eq_false_iff_ne, bne_iff_ne, bne_eq_false_iff_eq, ne_eq] at *); omega) hlc)⟩, by (try simp only [decide_eq_true_eq, decide_eq_false_iff_not, beq_iff_eq, beq_eq_false_iff_ne, bne_iff_ne, bne_eq_false_iff_eq, ne_eq] at *); omega, .cons rfl (.cons rfl .nil), (by repeat (first | exact Agree.refl _ _ | exact Agree.mix rfl | refine Agree.put rfl ?_ | refine Agree.keep rfl ?_)), fun _ h => h.sub (.cons_cons _ (List.nil_sublist _))⟩
                · refine c_skip ?_
                  refine c_seq ?_
                  refine c_region ?_
                  refine l_x (x_loadA rfl rfl rfl (by first | exact row_own (by repeat (first | exact .head _ | refine .tail _ ?_ | refine List.mem_append_right _ ?_)) | exact row_own_at (by repeat (first | exact .head _ | refine .tail _ ?_ | refine List.mem_append_right _ ?_)) _ 9 rfl)) rfl rfl ?_
                  rintro _ _ ⟨rfl, rfl⟩
                  refine l_x (x_val call_33 rfl (fun w hw => returns_fn s false (how_rets hpos) w)) rfl rfl ?_
                  rintro _ _ ⟨rfl, rfl⟩
                  refine l_l rfl rfl rfl ?_
                  refine l_p rfl rfl ?_
                  refine l_p rfl rfl ?_
                  refine l_p rfl rfl ?_
                  refine l_l rfl rfl rfl ?_
                  refine l_nil ?_
                  refine c_false rfl ?_
                  refine c_skip ?_
                  refine c_region ?_
                  refine l_as (v := (.int .i64 ((k + 1 : Nat) : Int))) rfl rfl rfl (congrArg _ (succ_law (by omega))) ?_
                  refine l_l rfl rfl rfl ?_
                  refine l_nil ?_
                  exact ⟨(k + 1, _, [(bo, _)]), ⟨by (try simp only [decide_eq_true_eq, decide_eq_false_iff_not, beq_iff_eq, beq_eq_false_iff_ne, bne_iff_ne, bne_eq_false_iff_eq, ne_eq] at *); omega, by dsimp only; rw [← callsL_take hg, hcs, noteC_how hpos, lay_no (by (try simp only [decide_eq_true_eq, decide_eq_false_iff_not, beq_iff_eq, beq_eq_false_iff_ne, bne_iff_ne, bne_eq_false_iff_eq, ne_eq] at *); omega)]; exact .of rfl hlc (RowsIn.own bo _ 84).left⟩, by (try simp only [decide_eq_true_eq, decide_eq_false_iff_not, beq_iff_eq, beq_eq_false_iff_ne, bne_iff_ne, bne_eq_false_iff_eq, ne_eq] at *); omega, .cons rfl (.cons rfl .nil), (by repeat (first | exact Agree.refl _ _ | exact Agree.mix rfl | refine Agree.put rfl ?_ | refine Agree.keep rfl ?_)), fun _ h => h.sub (.cons_cons _ (List.nil_sublist _))⟩
              exact d_stop
            refine d_fork ?_ ?_
            · refine d_x rfl (x_slc rfl rfl rfl rfl rfl rfl) rfl rfl (by intro h; cases h) ?_
              rintro _ _ ⟨b54, rfl, rfl⟩
              refine d_x rfl (x_slc0 (el := 84) (n := 5) rfl) rfl rfl (by intro _ _ _ hK x hx; obtain ⟨_, rfl, rfl⟩ := hK; repeat (first | exact hx | exact List.mem_append_left _ hx | refine List.mem_append_right _ ?_ | refine .tail _ ?_)) ?_
              rintro _ _ ⟨b32, rfl, rfl⟩
              refine d_x rfl (x_append (A := []) (G := [(b32, blk [] 84)]) (R := _) (v := (.slice (some ⟨b32, 0, none⟩) 0 0)) (n := 0) (xs := []) (m := cs.length) (T := 84) (s := 5) (by_ := 24) (ys := flat cC cs) rfl rfl rfl rfl (.row b32 0 0 [] [] rfl rfl (by decide) (Nat.le_refl 0)) (fun w hw => .row _ _ _ _ _ (flat_len cC_len _) (hr9.row (fun x hx => by simp [hx]) w hw)) (ones_flat_of ones_C _) (by omega) (by omega)) rfl rfl (by intro _ _ _ hK x hx; obtain ⟨G34, hV34, hn34, rfl⟩ := hK; repeat (first | exact hx | exact List.mem_append_left _ hx | refine List.mem_append_right _ ?_ | refine .tail _ ?_)) ?_
              rintro v34 _ ⟨G34, hV34, hn34, rfl⟩
              obtain ⟨a34, c34, rfl⟩ := hV34.slice
              refine d_x rfl (x_append (A := []) (G := G34) (R := _) (v := (.slice a34 (0 + cs.length) c34)) (n := (0 + cs.length)) (xs := ([] ++ flat cC cs)) (m := 1) (T := 84) (s := 5) (by_ := 24) (ys := cC (callI s)) rfl rfl rfl rfl hV34 (fun w hw => .row _ _ _ _ _ rfl (row_own (by repeat (first | exact .head _ | refine .tail _ ?_ | refine List.mem_append_right _ ?_)) w hw)) rfl (by omega) (by omega)) rfl rfl (by intro h; cases h) ?_
              rintro v55 _ ⟨G55, hV55, hn55, rfl⟩
              have hV9 : Vec 84 5 v55 (cs ++ [callI s]).length (flat cC (cs ++ [callI s])) G55 := hV55.as (by simp) (by simp [flat])
              obtain ⟨bo, co, so, rfl, rfl, hz, hlc, hxc⟩ := hV9.full (by simp)
              refine d_heap (H' := [(bo, _), (b5, _)]) (fun _ h => h.sub (.cons_cons _ (.cons _ (.cons_cons _ (List.nil_sublist _))))) ?_
              refine d_light rfl rfl rfl rfl rfl ?_
              refine d_nil ?_
              refine c_seq ?_
              refine c_region ?_
              refine l_l rfl rfl rfl ?_
              refine l_l (by first | exact light_len rfl rfl | exact light_lens rfl rfl | rfl) rfl rfl ?_
              refine l_l rfl rfl rfl ?_
              refine l_nil ?_
              refine c_cond rfl (fun h16 => ?_) (fun h16 => ?_)
              · have hl13 : 1 ≤ (cs ++ [callI s]).length := by simp
                refine c_region ?_
                refine l_l rfl rfl rfl ?_
                refine l_l (cut_slice (s := 5) 1 (cs ++ [callI s]).length rfl rfl rfl rfl rfl rfl hl13 hlc) rfl rfl ?_
                refine l_l rfl rfl rfl ?_
                refine l_nil ?_
                refine c_seq ?_
                refine c_region ?_
                refine l_x (x_loadA rfl rfl rfl (by first | exact row_own (by repeat (first | exact .head _ | refine .tail _ ?_ | refine List.mem_append_right _ ?_)) | exact row_own_at (by repeat (first | exact .head _ | refine .tail _ ?_ | refine List.mem_append_right _ ?_)) _ 9 rfl)) rfl rfl ?_
                rintro _ _ ⟨rfl, rfl⟩
                refine l_x (x_val call_33 rfl (fun w hw => returns_fn s false (how_rets hpos) w)) rfl rfl ?_
                rintro _ _ ⟨rfl, rfl⟩
                refine l_l rfl rfl rfl ?_
                refine l_p rfl rfl ?_
                refine l_p rfl rfl ?_
                refine l_p rfl rfl ?_
                refine l_l rfl rfl rfl ?_
                refine l_nil ?_
                refine c_false rfl ?_
                refine c_skip ?_
                refine c_region ?_
                refine l_as (v := (.int .i64 ((k + 1 : Nat) : Int))) rfl rfl rfl (congrArg _ (succ_law (by omega))) ?_
                refine l_l rfl rfl rfl ?_
                refine l_nil ?_
                exact ⟨(k + 1, _, [(bo, _)]), ⟨by (try simp only [decide_eq_true_eq, decide_eq_false_iff_not, beq_iff_eq, beq_eq_false_iff_ne, bne_iff_ne, bne_eq_false_iff_eq, ne_eq] at *); omega, by dsimp only; rw [← callsL_take hg, hcs, noteC_how hpos, lay_yes hcl (by (try simp only [decide_eq_true_eq, decide_eq_false_iff_not, beq_iff_eq, beq_eq_false_iff_ne, bne_iff_ne, bne_eq_false_iff_eq, ne_eq] at *); omega)]; exact .of (by rw [List.length_drop]) (by rw [List.length_drop]; omega) ((RowsIn.own bo _ 84).left.dropE cC_len (by (try simp only [decide_eq_true_eq, decide_eq_false_iff_not, beq_iff_eq, beq_eq_false_iff_ne, bne_iff_ne, bne_eq_false_iff_eq, ne_eq] at *); omega) hlc)⟩, by (try simp only [decide_eq_true_eq, decide_eq_false_iff_not, beq_iff_eq, beq_eq_false_iff_ne, bne_iff_ne, bne_eq_false_iff_eq, ne_eq] at *); omega, .cons rfl (.cons rfl .nil), (by repeat (first | exact Agree.refl _ _ | exact Agree.mix rfl | refine Agree.put rfl ?_ | refine Agree.keep rfl ?_)), fun _ h => h.sub (.cons_cons _ (List.nil_sublist _))⟩
              · refine c_skip ?_
                refine c_seq ?_
                refine c_region ?_
                refine l_x (x_loadA rfl rfl rfl (by first | exact row_own (by repeat (first | exact .head _ | refine .tail _ ?_ | refine List.mem_append_right _ ?_)) | exact row_own_at (by repeat (first | exact .head _ | refine .tail _ ?_ | refine List.mem_append_right _ ?_)) _ 9 rfl)) rfl rfl ?_
                rintro _ _ ⟨rfl, rfl⟩
                refine l_x (x_val call_33 rfl (fun w hw => returns_fn s false (how_rets hpos) w)) rfl rfl ?_
                rintro _ _ ⟨rfl, rfl⟩
                refine l_l rfl rfl rfl ?_
                refine l_p rfl rfl ?_
                refine l_p rfl rfl ?_
                refine l_p rfl rfl ?_
                refine l_l rfl rfl rfl ?_
                refine l_nil ?_
                refine c_false rfl ?_
                refine c_skip ?_
                refine c_region ?_
                refine l_as (v := (.int .i64 ((k + 1 : Nat) : Int))) rfl rfl rfl (congrArg _ (succ_law (by omega))) ?_
                refine l_l rfl rfl rfl ?_
                refine l_nil ?_
                exact ⟨(k + 1, _, [(bo, _)]), ⟨by (try simp only [decide_eq_true_eq, decide_eq_false_iff_not, beq_iff_eq, beq_eq_false_iff_ne, bne_iff_ne, bne_eq_false_iff_eq, ne_eq] at *); omega, by dsimp only; rw [← callsL_take hg, hcs, noteC_how hpos, lay_no (by (try simp only [decide_eq_true_eq, decide_eq_false_iff_not, beq_iff_eq, beq_eq_false_iff_ne, bne_iff_ne, bne_eq_false_iff_eq, ne_eq] at *); omega)]; exact .of rfl hlc (RowsIn.own bo _ 84).left⟩, by (try simp only [decide_eq_true_eq, decide_eq_false_iff_not, beq_iff_eq, beq_eq_false_iff_ne, bne_iff_ne, bne_eq_false_iff_eq, ne_eq] at *); omega, .cons rfl (.cons rfl .nil), (by repeat (first | exact Agree.refl _ _ | exact Agree.mix rfl | refine Agree.put rfl ?_ | refine Agree.keep rfl ?_)), fun _ h => h.sub (.cons_cons _ (List.nil_sublist _))⟩
            exact d_stop
          · refine c_skip ?_
            refine c_seq ?_
            refine c_draw _ [0, 2, 9, 10, 11, 12, 13, 14, 15, 16, 17, 18, 19, 20] (.step true 1 (.step true 3 (.step true 4 (.step true 5 (.step true 6 (.step true 7 (.step true 8 (.step true 9 (.step true 10 (.step true 11 (.step true 12 (.step true 13 (.step true 14 (.step true 15 (.step true 16 (.step true 17 (.step true 18 (.step true 19 (.step true 20 (.step true 21 (.fork 0 (.fork 2 (.step false 22 (.step false 23 (.step true 24 .done))) (.fork 22 (.step false 2 (.step false 23 (.step true 24 .done))) .stop)) (.fork 22 (.step false 0 (.step false 2 (.step false 23 (.step true 24 .done)))) .stop)))))))))))))))))))))) rfl (by kernel_rfl) (by kernel_rfl) (fun _ h => h) ?_
            refine d_light rfl rfl rfl rfl rfl ?_
            refine d_light rfl rfl rfl rfl rfl ?_
            refine d_light rfl rfl rfl rfl rfl ?_
            refine d_light rfl rfl rfl rfl rfl ?_
            refine d_light rfl (idx_slice (s := 12) k rfl rfl rfl rfl (by (try simp only [decide_eq_true_eq, decide_eq_false_iff_not, beq_iff_eq, beq_eq_false_iff_ne, bne_iff_ne, bne_eq_false_iff_eq, ne_eq] at *); omega)) rfl rfl rfl ?_
            refine d_light rfl (light_fa rfl rfl) rfl rfl rfl ?_
            refine d_load rfl rfl rfl (fun w hw => (srow_old hr (by simp) w hw).at cS_len hg 1 rfl) rfl rfl ?_
            refine d_light rfl (light_fa rfl rfl) rfl rfl rfl ?_
            refine d_load rfl rfl rfl (s_own (by repeat (first | exact .head _ | refine .tail _ ?_ | refine List.mem_append_right _ ?_)) (by rfl)) rfl rfl ?_
            refine d_light rfl rfl rfl rfl rfl ?_
            refine d_light rfl rfl rfl rfl rfl ?_
            refine d_light rfl (idx_slice (s := 12) k rfl rfl rfl rfl (by (try simp only [decide_eq_true_eq, decide_eq_false_iff_not, beq_iff_eq, beq_eq_false_iff_ne, bne_iff_ne, bne_eq_false_iff_eq, ne_eq] at *); omega)) rfl rfl rfl ?_
            refine d_light rfl (light_fa rfl rfl) rfl rfl rfl ?_
            refine d_load rfl rfl rfl (fun w hw => (srow_old hr (by simp) w hw).at cS_len hg 11 rfl) rfl rfl ?_
            refine d_light rfl rfl rfl rfl rfl ?_
            refine d_light rfl (rem_pos rfl rfl (by decide)) rfl rfl rfl ?_
            refine d_light rfl rfl rfl rfl rfl ?_
            refine d_light rfl (rem_pos rfl rfl (by decide)) rfl rfl rfl ?_
            refine d_as (v := (.int .u16 (backI s))) rfl rfl rfl rfl rfl (congrArg _ (back_i hso (by (try simp only [decide_eq_true_eq, decide_eq_false_iff_not, beq_iff_eq, beq_eq_false_iff_ne, bne_iff_ne, bne_eq_false_iff_eq, ne_eq] at *); omega))) ?_
            refine d_light rfl (light_struct rfl rfl rfl rfl) rfl rfl rfl ?_
            refine d_fork ?_ ?_
            · refine d_x rfl (x_slc0 (el := 84) (n := 5) rfl) rfl rfl (by intro _ _ _ hK x hx; obtain ⟨_, rfl, rfl⟩ := hK; repeat (first | exact hx | exact List.mem_append_left _ hx | refine List.mem_append_right _ ?_ | refine .tail _ ?_)) ?_
              rintro _ _ ⟨b32, rfl, rfl⟩
              refine d_fork ?_ ?_
              · refine d_x rfl (x_append (A := []) (G := [(b32, blk [] 84)]) (R := _) (v := (.slice (some ⟨b32, 0, none⟩) 0 0)) (n := 0) (xs := []) (m := cs.length) (T := 84) (s := 5) (by_ := 24) (ys := flat cC cs) rfl rfl rfl rfl (.row b32 0 0 [] [] rfl rfl (by decide) (Nat.le_refl 0)) (fun w hw => .row _ _ _ _ _ (flat_len cC_len _) (hr9.row (fun x hx => by simp [hx]) w hw)) (ones_flat_of ones_C _) (by omega) (by omega)) rfl rfl (by intro _ _ _ hK x hx; obtain ⟨G34, hV34, hn34, rfl⟩ := hK; repeat (first | exact hx | exact List.mem_append_left _ hx | refine List.mem_append_right _ ?_ | refine .tail _ ?_)) ?_
                rintro v34 _ ⟨G34, hV34, hn34, rfl⟩
                obtain ⟨a34, c34, rfl⟩ := hV34.slice
                refine d_x rfl (x_slc rfl rfl rfl rfl rfl rfl) rfl rfl (by intro h; cases h) ?_
                rintro _ _ ⟨b54, rfl, rfl⟩
                refine d_x rfl (x_append (A := [(b54, _)]) (G := G34) (R := _) (v := (.slice a34 (0 + cs.length) c34)) (n := (0 + cs.length)) (xs := ([] ++ flat cC cs)) (m := 1) (T := 84) (s := 5) (by_ := 24) (ys := cC (callI s)) rfl rfl rfl rfl hV34 (fun w hw => .row _ _ _ _ _ rfl (row_own (by repeat (first | exact .head _ | refine .tail _ ?_ | refine List.mem_append_right _ ?_)) w hw)) rfl (by omega) (by omega)) rfl rfl (by intro h; cases h) ?_
                rintro v55 _ ⟨G55, hV55, hn55, rfl⟩
                have hV9 : Vec 84 5 v55 (cs ++ [callI s]).length (flat cC (cs ++ [callI s])) G55 := hV55.as (by simp) (by simp [flat])
                obtain ⟨bo, co, so, rfl, rfl, hz, hlc, hxc⟩ := hV9.full (by simp)
                refine d_heap (H' := [(bo, _), (b5, _)]) (fun _ h => h.sub (.cons_cons _ (.cons _ (.cons_cons _ (List.nil_sublist _))))) ?_
                refine d_light rfl rfl rfl rfl rfl ?_
                refine d_nil ?_
                refine c_seq ?_
                refine c_region ?_
                refine l_l rfl rfl rfl ?_
                refine l_l (by first | exact light_len rfl rfl | exact light_lens rfl rfl | rfl) rfl rfl ?_
                refine l_l rfl rfl rfl ?_
                refine l_nil ?_
                refine c_cond rfl (fun h17 => ?_) (fun h17 => ?_)
                · have hl13 : 1 ≤ (cs ++ [callI s]).length := by simp
                  refine c_region ?_
                  refine l_l rfl rfl rfl ?_
                  refine l_l (cut_slice (s := 5) 1 (cs ++ [callI s]).length rfl rfl rfl rfl rfl rfl hl13 hlc) rfl rfl ?_
                  refine l_l rfl rfl rfl ?_
                  refine l_nil ?_
                  refine c_seq ?_
                  refine c_region ?_
                  refine l_x (x_loadA rfl rfl rfl (by first | exact row_own (by repeat (first | exact .head _ | refine .tail _ ?_ | refine List.mem_append_right _ ?_)) | exact row_own_at (by repeat (first | exact .head _ | refine .tail _ ?_ | refine List.mem_append_right _ ?_)) _ 9 rfl)) rfl rfl ?_
                  rintro _ _ ⟨rfl, rfl⟩
                  refine l_x (x_val call_33 rfl (fun w hw => returns_fn s false (how_rets hpos) w)) rfl rfl ?_
                  rintro _ _ ⟨rfl, rfl⟩
                  refine l_l rfl rfl rfl ?_
                  refine l_p rfl rfl ?_
                  refine l_p rfl rfl ?_
                  refine l_p rfl rfl ?_
                  refine l_l rfl rfl rfl ?_
                  refine l_nil ?_
                  refine c_false rfl ?_
                  refine c_skip ?_
                  refine c_region ?_
                  refine l_as (v := (.int .i64 ((k + 1 : Nat) : Int))) rfl rfl rfl (congrArg _ (succ_law (by omega))) ?_
                  refine l_l rfl rfl rfl ?_
                  refine l_nil ?_
                  exact ⟨(k + 1, _, [(bo, _)]), ⟨by (try simp only [decide_eq_true_eq, decide_eq_false_iff_not, beq_iff_eq, beq_eq_false_iff_ne, bne_iff_ne, bne_eq_false_iff_eq, ne_eq] at *); omega, by dsimp only; rw [← callsL_take hg, hcs, noteC_how hpos, lay_yes hcl (by (try simp only [decide_eq_true_eq, decide_eq_false_iff_not, beq_iff_eq, beq_eq_false_iff_ne, bne_iff_ne, bne_eq_false_iff_eq, ne_eq] at *); omega)]; exact .of (by rw [List.length_drop]) (by rw [List.length_drop]; omega) ((RowsIn.own bo _ 84).left.dropE cC_len (by (try simp only [decide_eq_true_eq, decide_eq_false_iff_not, beq_iff_eq, beq_eq_false_iff_ne, bne_iff_ne, bne_eq_false_iff_eq, ne_eq] at *); omega) hlc)⟩, by (try simp only [decide_eq_true_eq, decide_eq_false_iff_not, beq_iff_eq, beq_eq_false_iff_ne, bne_iff_ne, bne_eq_false_iff_eq, ne_eq] at *); omega, .cons rfl (.cons rfl .nil), (by repeat (first | exact Agree.refl _ _ | exact Agree.mix rfl | refine Agree.put rfl ?_ | refine Agree.keep rfl ?_)), fun _ h => h.sub (.cons_cons _ (List.nil_sublist _))⟩
                · refine c_skip ?_
                  refine c_seq ?_
                  refine c_region ?_
                  refine l_x (x_loadA rfl rfl rfl (by first | exact row_own (by repeat (first | exact .head _ | refine .tail _ ?_ | refine List.mem_append_right _ ?_)) | exact row_own_at (by repeat (first | exact .head _ | refine .tail _ ?_ | refine List.mem_append_right _ ?_)) _ 9 rfl)) rfl rfl ?_
                  rintro _ _ ⟨rfl, rfl⟩
                  refine l_x (x_val call_33 rfl (fun w hw => returns_fn s false (how_rets hpos) w)) rfl rfl ?_
                  rintro _ _ ⟨rfl, rfl⟩
                  refine l_l rfl rfl rfl ?_
                  refine l_p rfl rfl ?_
                  refine l_p rfl rfl ?_
                  refine l_p rfl rfl ?_
                  refine l_l rfl rfl rfl ?_
                  refine l_nil ?_
                  refine c_false rfl ?_
                  refine c_skip ?_
                  refine c_region ?_
                  refine l_as (v := (.int .i64 ((k + 1 : Nat) : Int))) rfl rfl rfl (congrArg _ (succ_law (by omega))) ?_
                  refine l_l rfl rfl rfl ?_
                  refine l_nil ?_
                  exact ⟨(k + 1, _, [(bo, _)]), ⟨by (try simp only [decide_eq_true_eq, decide_eq_false_iff_not, beq_iff_eq, beq_eq_false_iff_ne, bne_iff_ne, bne_eq_false_iff_eq, ne_eq] at *); omega, by dsimp only; rw [← callsL_take hg, hcs, noteC_how hpos, lay_no (by (try simp only [decide_eq_true_eq, decide_eq_false_iff_not, beq_iff_eq, beq_eq_false_iff_ne, bne_iff_ne, bne_eq_false_iff_eq, ne_eq] at *); omega)]; exact .of rfl hlc (RowsIn.own bo _ 84).left⟩, by (try simp only [decide_eq_true_eq, decide_eq_false_iff_not, beq_iff_eq, beq_eq_false_iff_ne, bne_iff_ne, bne_eq_false_iff_eq, ne_eq] at *); omega, .cons rfl (.cons rfl .nil), (by repeat (first | exact Agree.refl _ _ | exact Agree.mix rfl | refine Agree.put rfl ?_ | refine Agree.keep rfl ?_)), fun _ h => h.sub (.cons_cons _ (List.nil_sublist _))⟩
              refine d_fork ?_ ?_
              · refine d_x rfl (x_slc rfl rfl rfl rfl rfl rfl) rfl rfl (by intro h; cases h) ?_
                rintro _ _ ⟨b54, rfl, rfl⟩
                refine d_x rfl (x_append (A := [(b54, _)]) (G := [(b32, blk [] 84)]) (R := _) (v := (.slice (some ⟨b32, 0, none⟩) 0 0)) (n := 0) (xs := []) (m := cs.length) (T := 84) (s := 5) (by_ := 24) (ys := flat cC cs) rfl rfl rfl rfl (.row b32 0 0 [] [] rfl rfl (by decide) (Nat.le_refl 0)) (fun w hw => .row _ _ _ _ _ (flat_len cC_len _) (hr9.row (fun x hx => by simp [hx]) w hw)) (ones_flat_of ones_C _) (by omega) (by omega)) rfl rfl (by intro _ _ _ hK x hx; obtain ⟨G34, hV34, hn34, rfl⟩ := hK; repeat (first | exact hx | exact List.mem_append_left _ hx | refine List.mem_append_right _ ?_ | refine .tail _ ?_)) ?_
                rintro v34 _ ⟨G34, hV34, hn34, rfl⟩
                obtain ⟨a34, c34, rfl⟩ := hV34.slice
                refine d_x rfl (x_append (A := []) (G := G34) (R := _) (v := (.slice a34 (0 + cs.length) c34)) (n := (0 + cs.length)) (xs := ([] ++ flat cC cs)) (m := 1) (T := 84) (s := 5) (by_ := 24) (ys := cC (callI s)) rfl rfl rfl rfl hV34 (fun w hw => .row _ _ _ _ _ rfl (row_own (by repeat (first | exact .head _ | refine .tail _ ?_ | refine List.mem_append_right _ ?_)) w hw)) rfl (by omega) (by omega)) rfl rfl (by intro h; cases h) ?_
                rintro v55 _ ⟨G55, hV55, hn55, rfl⟩
                have hV9 : Vec 84 5 v55 (cs ++ [callI s]).length (flat cC (cs ++ [callI s])) G55 := hV55.as (by simp) (by simp [flat])
                obtain ⟨bo, co, so, rfl, rfl, hz, hlc, hxc⟩ := hV9.full (by simp)
                refine d_heap (H' := [(bo, _), (b5, _)]) (fun _ h => h.sub (.cons_cons _ (.cons _ (.cons_cons _ (List.nil_sublist _))))) ?_
                refine d_light rfl rfl rfl rfl rfl ?_
                refine d_nil ?_
                refine c_seq ?_
                refine c_region ?_
                refine l_l rfl rfl rfl ?_
                refine l_l (by first | exact light_len rfl rfl | exact light_lens rfl rfl | rfl) rfl rfl ?_
                refine l_l rfl rfl rfl ?_
                refine l_nil ?_
                refine c_cond rfl (fun h18 => ?_) (fun h18 => ?_)
                · have hl13 : 1 ≤ (cs ++ [callI s]).length := by simp
                  refine c_region ?_
                  refine l_l rfl rfl rfl ?_
                  refine l_l (cut_slice (s := 5) 1 (cs ++ [callI s]).length rfl rfl rfl rfl rfl rfl hl13 hlc) rfl rfl ?_
                  refine l_l rfl rfl rfl ?_
                  refine l_nil ?_
                  refine c_seq ?_
                  refine c_region ?_
                  refine l_x (x_loadA rfl rfl rfl (by first | exact row_own (by repeat (first | exact .head _ | refine .tail _ ?_ | refine List.mem_append_right _ ?_)) | exact row_own_at (by repeat (first | exact .head _ | refine .tail _ ?_ | refine List.mem_append_right _ ?_)) _ 9 rfl)) rfl rfl ?_
                  rintro _ _ ⟨rfl, rfl⟩
                  refine l_x (x_val call_33 rfl (fun w hw => returns_fn s false (how_rets hpos) w)) rfl rfl ?_
                  rintro _ _ ⟨rfl, rfl⟩
                  refine l_l rfl rfl rfl ?_
                  refine l_p rfl rfl ?_
                  refine l_p rfl rfl ?_
                  refine l_p rfl rfl ?_
                  refine l_l rfl rfl rfl ?_
                  refine l_nil ?_
                  refine c_false rfl ?_
                  refine c_skip ?_
                  refine c_region ?_
                  refine l_as (v := (.int .i64 ((k + 1 : Nat) : Int))) rfl rfl rfl (congrArg _ (succ_law (by omega))) ?_
                  refine l_l rfl rfl rfl ?_
                  refine l_nil ?_
                  exact ⟨(k + 1, _, [(bo, _)]), ⟨by (try simp only [decide_eq_true_eq, decide_eq_false_iff_not, beq_iff_eq, beq_eq_false_iff_ne, bne_iff_ne, bne_eq_false_iff_eq, ne_eq] at *); omega, by dsimp only; rw [← callsL_take hg, hcs, noteC_how hpos, lay_yes hcl (by (try simp only [decide_eq_true_eq, decide_eq_false_iff_not, beq_iff_eq, beq_eq_false_iff_ne, bne_iff_ne, bne_eq_false_iff_eq, ne_eq] at *); omega)]; exact .of (by rw [List.length_drop]) (by rw [List.length_drop]; omega) ((RowsIn.own bo _ 84).left.dropE cC_len (by (try simp only [decide_eq_true_eq, decide_eq_false_iff_not, beq_iff_eq, beq_eq_false_iff_ne, bne_iff_ne, bne_eq_false_iff_eq, ne_eq] at *); omega) hlc)⟩, by (try simp only [decide_eq_true_eq, decide_eq_false_iff_not, beq_iff_eq, beq_eq_false_iff_ne, bne_iff_ne, bne_eq_false_iff_eq, ne_eq] at *); omega, .cons rfl (.cons rfl .nil), (by repeat (first | exact Agree.refl _ _ | exact Agree.mix rfl | refine Agree.put rfl ?_ | refine Agree.keep rfl ?_)), fun _ h => h.sub (.cons_cons _ (List.nil_sublist _))⟩
                · refine c_skip ?_
                  refine c_seq ?_
                  refine c_region ?_
                  refine l_x (x_loadA rfl rfl rfl (by first | exact row_own (by repeat (first | exact .head _ | refine .tail _ ?_ | refine List.mem_append_right _ ?_)) | exact row_own_at (by repeat (first | exact .head _ | refine .tail _ ?_ | refine List.mem_append_right _ ?_)) _ 9 rfl)) rfl rfl ?_
                  rintro _ _ ⟨rfl, rfl⟩
                  refine l_x (x_val call_33 rfl (fun w hw => returns_fn s false (how_rets hpos) w)) rfl rfl ?_
                  rintro _ _ ⟨rfl, rfl⟩
                  refine l_l rfl rfl rfl ?_
                  refine l_p rfl rfl ?_
                  refine l_p rfl rfl ?_
                  refine l_p rfl rfl ?_
                  refine l_l rfl rfl rfl ?_
                  refine l_nil ?_
                  refine c_false rfl ?_
                  refine c_skip ?_
                  refine c_region ?_
                  refine l_as (v := (.int .i64 ((k + 1 : Nat) : Int))) rfl rfl rfl (congrArg _ (succ_law (by omega))) ?_
                  refine l_l rfl rfl rfl ?_
                  refine l_nil ?_
                  exact ⟨(k + 1, _, [(bo, _)]), ⟨by (try simp only [decide_eq_true_eq, decide_eq_false_iff_not, beq_iff_eq, beq_eq_false_iff_ne, bne_iff_ne, bne_eq_false_iff_eq, ne_eq] at *); omega, by dsimp only; rw [← callsL_take hg, hcs, noteC_how hpos, lay_no (by (try simp only [decide_eq_true_eq, decide_eq_false_iff_not, beq_iff_eq, beq_eq_false_iff_ne, bne_iff_ne, bne_eq_false_iff_eq, ne_eq] at *); omega)]; exact .of rfl hlc (RowsIn.own bo _ 84).left⟩, by (try simp only [decide_eq_true_eq, decide_eq_false_iff_not, beq_iff_eq, beq_eq_false_iff_ne, bne_iff_ne, bne_eq_false_iff_eq, ne_eq] at *); omega, .cons rfl (.cons rfl .nil), (by repeat (first | exact Agree.refl _ _ | exact Agree.mix rfl | refine Agree.put rfl ?_ | refine Agree.keep rfl ?_)), fun _ h => h.sub (.cons_cons _ (List.nil_sublist _))⟩
              exact d_stop
            refine d_fork ?_ ?_
            · refine d_x rfl (x_slc rfl rfl rfl rfl rfl rfl) rfl rfl (by intro h; cases h) ?_
              rintro _ _ ⟨b54, rfl, rfl⟩
              refine d_x rfl (x_slc0 (el := 84) (n := 5) rfl) rfl rfl (by intro _ _ _ hK x hx; obtain ⟨_, rfl, rfl⟩ := hK; repeat (first | exact hx | exact List.mem_append_left _ hx | refine List.mem_append_right _ ?_ | refine .tail _ ?_)) ?_
              rintro _ _ ⟨b32, rfl, rfl⟩
              refine d_x rfl (x_append (A := []) (G := [(b32, blk [] 84)]) (R := _) (v := (.slice (some ⟨b32, 0, none⟩) 0 0)) (n := 0) (xs := []) (m := cs.length) (T := 84) (s := 5) (by_ := 24) (ys := flat cC cs) rfl rfl rfl rfl (.row b32 0 0 [] [] rfl rfl (by decide) (Nat.le_refl 0)) (fun w hw => .row _ _ _ _ _ (flat_len cC_len _) (hr9.row (fun x hx => by simp [hx]) w hw)) (ones_flat_of ones_C _) (by omega) (by omega)) rfl rfl (by intro _ _ _ hK x hx; obtain ⟨G34, hV34, hn34, rfl⟩ := hK; repeat (first | exact hx | exact List.mem_append_left _ hx | refine List.mem_append_right _ ?_ | refine .tail _ ?_)) ?_
              rintro v34 _ ⟨G34, hV34, hn34, rfl⟩
              obtain ⟨a34, c34, rfl⟩ := hV34.slice
              refine d_x rfl (x_append (A := []) (G := G34) (R := _) (v := (.slice a34 (0 + cs.length) c34)) (n := (0 + cs.length)) (xs := ([] ++ flat cC cs)) (m := 1) (T := 84) (s := 5) (by_ := 24) (ys := cC (callI s)) rfl rfl rfl rfl hV34 (fun w hw => .row _ _ _ _ _ rfl (row_own (by repeat (first | exact .head _ | refine .tail _ ?_ | refine List.mem_append_right _ ?_)) w hw)) rfl (by omega) (by omega)) rfl rfl (by intro h; cases h) ?_
              rintro v55 _ ⟨G55, hV55, hn55, rfl⟩
              have hV9 : Vec 84 5 v55 (cs ++ [callI s]).length (flat cC (cs ++ [callI s])) G55 := hV55.as (by simp) (by simp [flat])
              obtain ⟨bo, co, so, rfl, rfl, hz, hlc, hxc⟩ := hV9.full (by simp)
              refine d_heap (H' := [(bo, _), (b5, _)]) (fun _ h => h.sub (.cons_cons _ (.cons _ (.cons_cons _ (List.nil_sublist _))))) ?_
              refine d_light rfl rfl rfl rfl rfl ?_
              refine d_nil ?_
              refine c_seq ?_
              refine c_region ?_
              refine l_l rfl rfl rfl ?_
              refine l_l (by first | exact light_len rfl rfl | exact light_lens rfl rfl | rfl) rfl rfl ?_
              refine l_l rfl rfl rfl ?_
              refine l_nil ?_
              refine c_cond rfl (fun h19 => ?_) (fun h19 => ?_)
              · have hl13 : 1 ≤ (cs ++ [callI s]).length := by simp
                refine c_region ?_
                refine l_l rfl rfl rfl ?_
                refine l_l (cut_slice (s := 5) 1 (cs ++ [callI s]).length rfl rfl rfl rfl rfl rfl hl13 hlc) rfl rfl ?_
                refine l_l rfl rfl rfl ?_
                refine l_nil ?_
                refine c_seq ?_
                refine c_region ?_
                refine l_x (x_loadA rfl rfl rfl (by first | exact row_own (by repeat (first | exact .head _ | refine .tail _ ?_ | refine List.mem_append_right _ ?_)) | exact row_own_at (by repeat (first | exact .head _ | refine .tail _ ?_ | refine List.mem_append_right _ ?_)) _ 9 rfl)) rfl rfl ?_
                rintro _ _ ⟨rfl, rfl⟩
                refine l_x (x_val call_33 rfl (fun w hw => returns_fn s false (how_rets hpos) w)) rfl rfl ?_
                rintro _ _ ⟨rfl, rfl⟩
                refine l_l rfl rfl rfl ?_
                refine l_p rfl rfl ?_
                refine l_p rfl rfl ?_
                refine l_p rfl rfl ?_
                refine l_l rfl rfl rfl ?_
                refine l_nil ?_
                refine c_false rfl ?_
                refine c_skip ?_
                refine c_region ?_
                refine l_as (v := (.int .i64 ((k + 1 : Nat) : Int))) rfl rfl rfl (congrArg _ (succ_law (by omega))) ?_
                refine l_l rfl rfl rfl ?_
                refine l_nil ?_
                exact ⟨(k + 1, _, [(bo, _)]), ⟨by (try simp only [decide_eq_true_eq, decide_eq_false_iff_not, beq_iff_eq, beq_eq_false_iff_ne, bne_iff_ne, bne_eq_false_iff_eq, ne_eq] at *); omega, by dsimp only; rw [← callsL_take hg, hcs, noteC_how hpos, lay_yes hcl (by (try simp only [decide_eq_true_eq, decide_eq_false_iff_not, beq_iff_eq, beq_eq_false_iff_ne, bne_iff_ne, bne_eq_false_iff_eq, ne_eq] at *); omega)]; exact .of (by rw [List.length_drop]) (by rw [List.length_drop]; omega) ((RowsIn.own bo _ 84).left.dropE cC_len (by (try simp only [decide_eq_true_eq, decide_eq_false_iff_not, beq_iff_eq, beq_eq_false_iff_ne, bne_iff_ne, bne_eq_false_iff_eq, ne_eq] at *); omega) hlc)⟩, by (try simp only [decide_eq_true_eq, decide_eq_false_iff_not, beq_iff_eq, beq_eq_false_iff_ne, bne_iff_ne, bne_eq_false_iff_eq, ne_eq] at *); omega, .cons rfl (.cons rfl .nil), (by repeat (first | exact Agree.refl _ _ | exact Agree.mix rfl | refine Agree.put rfl ?_ | refine Agree.keep rfl ?_)), fun _ h => h.sub (.cons_cons _ (List.nil_sublist _))⟩
              · refine c_skip ?_
                refine c_seq ?_
                refine c_region ?_
                refine l_x (x_loadA rfl rfl rfl (by first | exact row_own (by repeat (first | exact .head _ | refine .tail _ ?_ | refine List.mem_append_right _ ?_)) | exact row_own_at (by repeat (first | exact .head _ | refine .tail _ ?_ | refine List.mem_append_right _ ?_)) _ 9 rfl)) rfl rfl ?_
                rintro _ _ ⟨rfl, rfl⟩
                refine l_x (x_val call_33 rfl (fun w hw => returns_fn s false (how_rets hpos) w)) rfl rfl ?_
                rintro _ _ ⟨rfl, rfl⟩
                refine l_l rfl rfl rfl ?_
                refine l_p rfl rfl ?_
                refine l_p rfl rfl ?_
                refine l_p rfl rfl ?_
                refine l_l rfl rfl rfl ?_
                refine l_nil ?_
                refine c_false rfl ?_
                refine c_skip ?_
                refine c_region ?_
                refine l_as (v := (.int .i64 ((k + 1 : Nat) : Int))) rfl rfl rfl (congrArg _ (succ_law (by omega))) ?_
                refine l_l rfl rfl rfl ?_
                refine l_nil ?_
                exact ⟨(k + 1, _, [(bo, _)]), ⟨by (try simp only [decide_eq_true_eq, decide_eq_false_iff_not, beq_iff_eq, beq_eq_false_iff_ne, bne_iff_ne, bne_eq_false_iff_eq, ne_eq] at *); omega, by dsimp only; rw [← callsL_take hg, hcs, noteC_how hpos, lay_no (by (try simp only [decide_eq_true_eq, decide_eq_false_iff_not, beq_iff_eq, beq_eq_false_iff_ne, bne_iff_ne, bne_eq_false_iff_eq, ne_eq] at *); omega)]; exact .of rfl hlc (RowsIn.own bo _ 84).left⟩, by (try simp only [decide_eq_true_eq, decide_eq_false_iff_not, beq_iff_eq, beq_eq_false_iff_ne, bne_iff_ne, bne_eq_false_iff_eq, ne_eq] at *); omega, .cons rfl (.cons rfl .nil), (by repeat (first | exact Agree.refl _ _ | exact Agree.mix rfl | refine Agree.put rfl ?_ | refine Agree.keep rfl ?_)), fun _ h => h.sub (.cons_cons _ (List.nil_sublist _))⟩
            exact d_stop
        · refine c_skip ?_
          refine c_seq ?_
          refine c_region ?_
          refine l_x (x_loadA rfl rfl rfl (by first | exact row_own (by repeat (first | exact .head _ | refine .tail _ ?_ | refine List.mem_append_right _ ?_)) | exact row_own_at (by repeat (first | exact .head _ | refine .tail _ ?_ | refine List.mem_append_right _ ?_)) _ 9 rfl)) rfl rfl ?_
          rintro _ _ ⟨rfl, rfl⟩
          refine l_x (x_val call_33 rfl (fun w hw => returns_fn s _ rfl w)) rfl rfl ?_
          rintro _ _ ⟨rfl, rfl⟩
          refine l_b rfl rfl rfl (fun h20 => ?_) (fun h20 => ?_)
          · refine l_l rfl rfl rfl ?_
            refine l_l (by first | exact light_len rfl rfl | exact light_lens rfl rfl | rfl) rfl rfl ?_
            refine l_l rfl rfl rfl ?_
            refine l_l rfl rfl rfl ?_
            refine l_nil ?_
            refine c_cond rfl (fun h21 => ?_) (fun h21 => ?_)
            · refine c_region ?_
              refine l_l rfl rfl rfl ?_
              refine l_l rfl rfl rfl ?_
              refine l_l (by first | exact light_len rfl rfl | exact light_lens rfl rfl | rfl) rfl rfl ?_
              refine l_as (v := (.int .i64 ((cs.length - 1 : Nat) : Int))) rfl rfl rfl (congrArg _ (by rw [wrap_i64 (by omega) (by omega)]; (try simp only [decide_eq_true_eq, decide_eq_false_iff_not, beq_iff_eq, beq_eq_false_iff_ne, bne_iff_ne, bne_eq_false_iff_eq, ne_eq] at *); omega)) ?_
              refine l_l (cut_pre (cs.length - 1) rfl rfl rfl rfl (by omega)) rfl rfl ?_
              refine l_l rfl rfl rfl ?_
              refine l_nil ?_
              refine c_region ?_
              refine l_as (v := (.int .i64 ((k + 1 : Nat) : Int))) rfl rfl rfl (congrArg _ (succ_law (by omega))) ?_
              refine l_l rfl rfl rfl ?_
              refine l_nil ?_
              exact ⟨(k + 1, _, G), ⟨by (try simp only [decide_eq_true_eq, decide_eq_false_iff_not, beq_iff_eq, beq_eq_false_iff_ne, bne_iff_ne, bne_eq_false_iff_eq, ne_eq] at *); omega, by dsimp only; rw [← callsL_take hg, hcs, noteC_rets (by (try simp only [decide_eq_true_eq, decide_eq_false_iff_not, beq_iff_eq, beq_eq_false_iff_ne, bne_iff_ne, bne_eq_false_iff_eq, ne_eq] at *); omega) (by (try simp only [decide_eq_true_eq, decide_eq_false_iff_not, beq_iff_eq, beq_eq_false_iff_ne, bne_iff_ne, bne_eq_false_iff_eq, ne_eq] at *); omega), List.dropLast_eq_take]; exact .of (by rw [List.length_take]; omega) (by rw [List.length_take]; omega) (hr9.takeE _)⟩, by (try simp only [decide_eq_true_eq, decide_eq_false_iff_not, beq_iff_eq, beq_eq_false_iff_ne, bne_iff_ne, bne_eq_false_iff_eq, ne_eq] at *); omega, .cons rfl (.cons rfl .nil), (by repeat (first | exact Agree.refl _ _ | exact Agree.mix rfl | refine Agree.put rfl ?_ | refine Agree.keep rfl ?_)), fun _ h => h.sub (List.sublist_cons_self _ _)⟩
            · refine c_skip ?_
              refine c_region ?_
              refine l_as (v := (.int .i64 ((k + 1 : Nat) : Int))) rfl rfl rfl (congrArg _ (succ_law (by omega))) ?_
              refine l_l rfl rfl rfl ?_
              refine l_nil ?_
              exact ⟨(k + 1, _, G), ⟨by (try simp only [decide_eq_true_eq, decide_eq_false_iff_not, beq_iff_eq, beq_eq_false_iff_ne, bne_iff_ne, bne_eq_false_iff_eq, ne_eq] at *); omega, by dsimp only; rw [← callsL_take hg, hcs, noteC_rets0 (by (try simp only [decide_eq_true_eq, decide_eq_false_iff_not, beq_iff_eq, beq_eq_false_iff_ne, bne_iff_ne, bne_eq_false_iff_eq, ne_eq] at *); omega) (by (try simp only [decide_eq_true_eq, decide_eq_false_iff_not, beq_iff_eq, beq_eq_false_iff_ne, bne_iff_ne, bne_eq_false_iff_eq, ne_eq] at *); omega) (by (try simp only [decide_eq_true_eq, decide_eq_false_iff_not, beq_iff_eq, beq_eq_false_iff_ne, bne_iff_ne, bne_eq_false_iff_eq, ne_eq] at *); omega)]; exact hS⟩, by (try simp only [decide_eq_true_eq, decide_eq_false_iff_not, beq_iff_eq, beq_eq_false_iff_ne, bne_iff_ne, bne_eq_false_iff_eq, ne_eq] at *); omega, .cons rfl (.cons rfl .nil), (by repeat (first | exact Agree.refl _ _ | exact Agree.mix rfl | refine Agree.put rfl ?_ | refine Agree.keep rfl ?_)), fun _ h => h.sub (List.sublist_cons_self _ _)⟩
          · refine l_p rfl rfl ?_
            refine l_p rfl rfl ?_
            refine l_p rfl rfl ?_
            refine l_l rfl rfl rfl ?_
            refine l_nil ?_
            refine c_false rfl ?_
            refine c_skip ?_
            refine c_region ?_
            refine l_as (v := (.int .i64 ((k + 1 : Nat) : Int))) rfl rfl rfl (congrArg _ (succ_law (by omega))) ?_
            refine l_l rfl rfl rfl ?_
            refine l_nil ?_
            exact ⟨(k + 1, _, G), ⟨by (try simp only [decide_eq_true_eq, decide_eq_false_iff_not, beq_iff_eq, beq_eq_false_iff_ne, bne_iff_ne, bne_eq_false_iff_eq, ne_eq] at *); omega, by dsimp only; rw [← callsL_take hg, hcs, noteC_no (by (try simp only [decide_eq_true_eq, decide_eq_false_iff_not, beq_iff_eq, beq_eq_false_iff_ne, bne_iff_ne, bne_eq_false_iff_eq, ne_eq] at *); omega) (by (try simp only [decide_eq_true_eq, decide_eq_false_iff_not, beq_iff_eq, beq_eq_false_iff_ne, bne_iff_ne, bne_eq_false_iff_eq, ne_eq] at *); omega)]; exact hS⟩, by (try simp only [decide_eq_true_eq, decide_eq_false_iff_not, beq_iff_eq, beq_eq_false_iff_ne, bne_iff_ne, bne_eq_false_iff_eq, ne_eq] at *); omega, .cons rfl (.cons rfl .nil), (by repeat (first | exact Agree.refl _ _ | exact Agree.mix rfl | refine Agree.put rfl ?_ | refine Agree.keep rfl ?_)), fun _ h => h.sub (List.sublist_cons_self _ _)⟩
      · refine c_exit rfl ?_
        refine c_seq ?_
        refine c_region ?_
        refine l_l rfl rfl rfl ?_
        refine l_l rfl rfl rfl ?_
        refine l_nil ?_
        refine c_ret ?_
        obtain rfl : k = l.length := by (try simp only [decide_eq_true_eq, decide_eq_false_iff_not, beq_iff_eq, beq_eq_false_iff_ne, bne_iff_ne, bne_eq_false_iff_eq, ne_eq] at *); omega
        rw [List.take_length] at hcs
        exact l_end (fun _ _ => rets_v rfl) (List.sublist_append_left _ _) (by rw [hcs]; exact hS)

end Go.Proofs.Ytmafgccagaihbaa
