/- The contracts of Add and Find. -/
import Derived.Test.YtmafgccagaihbaaNamesD
import Derived.Test.YtmafgccagaihbaaCalls
namespace Go.Proofs.Ytmafgccagaihbaa
open Go Go.VV Go.Proofs
set_option linter.unusedSimpArgs false
set_option linter.unusedVariables false
set_option maxRecDepth 100000
theorem nadd_fn (b : Nat) (P : List Nm) (H0 : Heap) (hN : NamH b P H0) (hs : Srt P) (hok : ∀ y ∈ P, AtOk y) (hlen : P.length ≤ 64) (bank at_ : Int) (name : ByteArray) (hx : 0 ≤ at_ ∧ at_ < 65536) (w : World) (hst : St w (H0.map (·.1)) H0 w) :
    Does Try.prog 16 [.pointer (some ⟨b, 0, none⟩), .int .i64 bank, .int .u16 at_, .string name] w (H0.map (·.1)) (fun v H => v = .int .i64 (addE P ⟨bank, at_, name⟩) ∧ NamH b (addP P ⟨bank, at_, name⟩) H) := by
  obtain ⟨v, G, rfl, hV⟩ := hN
  obtain ⟨a, c, rfl, _, hc9, hg9⟩ := hV.gives cN_len (by decide)
  refine does_of Try.func16 rfl rfl rfl hst ?_
  refine c_seq ?_
  refine c_region ?_
  refine l_l rfl rfl rfl ?_
  refine l_nil ?_
  refine c_seq ?_
  refine c_seq ?_
  refine c_region ?_
  refine l_l rfl rfl rfl ?_
  refine l_l rfl rfl rfl ?_
  refine l_l rfl rfl rfl ?_
  refine l_l rfl rfl rfl ?_
  refine l_l (by first | exact light_len rfl rfl | exact light_lens rfl rfl | rfl) rfl rfl ?_
  refine l_l rfl rfl rfl ?_
  refine l_l rfl rfl rfl ?_
  refine l_b rfl rfl rfl (fun h1 => ?_) (fun h1 => ?_)
  · refine l_p rfl rfl ?_
    refine l_p rfl rfl ?_
    refine l_p rfl rfl ?_
    refine l_l rfl rfl rfl ?_
    refine l_l rfl rfl rfl ?_
    refine l_p rfl rfl ?_
    refine l_p rfl rfl ?_
    refine l_l rfl rfl rfl ?_
    refine l_l rfl rfl rfl ?_
    refine l_p rfl rfl ?_
    refine l_p rfl rfl ?_
    refine l_l rfl rfl rfl ?_
    refine l_nil ?_
    refine c_true rfl ?_
    refine c_seq ?_
    refine c_region ?_
    refine l_l rfl rfl rfl ?_
    refine l_nil ?_
    refine c_ret ?_
    exact l_end (fun _ _ => rets_v rfl) (List.Sublist.refl _) ⟨congrArg _ (add_bad (by unfold BadP; dsimp only; (try simp only [decide_eq_true_eq, decide_eq_false_iff_not, beq_iff_eq, beq_eq_false_iff_ne, bne_iff_ne, bne_eq_false_iff_eq, ne_eq] at *); omega)).1.symm, by rw [(add_bad (P := P) (x := ⟨bank, at_, name⟩) (by unfold BadP; dsimp only; (try simp only [decide_eq_true_eq, decide_eq_false_iff_not, beq_iff_eq, beq_eq_false_iff_ne, bne_iff_ne, bne_eq_false_iff_eq, ne_eq] at *); omega)).2]; exact ⟨_, _, rfl, hV⟩⟩
  · refine l_l rfl rfl rfl ?_
    refine l_l (by first | exact light_len rfl rfl | exact light_lens rfl rfl | rfl) rfl rfl ?_
    refine l_l rfl rfl rfl ?_
    refine l_l rfl rfl rfl ?_
    refine l_b rfl rfl rfl (fun h2 => ?_) (fun h2 => ?_)
    · refine l_p rfl rfl ?_
      refine l_p rfl rfl ?_
      refine l_l rfl rfl rfl ?_
      refine l_l rfl rfl rfl ?_
      refine l_p rfl rfl ?_
      refine l_p rfl rfl ?_
      refine l_l rfl rfl rfl ?_
      refine l_nil ?_
      refine c_true rfl ?_
      refine c_seq ?_
      refine c_region ?_
      refine l_l rfl rfl rfl ?_
      refine l_nil ?_
      refine c_ret ?_
      exact l_end (fun _ _ => rets_v rfl) (List.Sublist.refl _) ⟨congrArg _ (add_bad (by unfold BadP; dsimp only; (try simp only [decide_eq_true_eq, decide_eq_false_iff_not, beq_iff_eq, beq_eq_false_iff_ne, bne_iff_ne, bne_eq_false_iff_eq, ne_eq] at *); omega)).1.symm, by rw [(add_bad (P := P) (x := ⟨bank, at_, name⟩) (by unfold BadP; dsimp only; (try simp only [decide_eq_true_eq, decide_eq_false_iff_not, beq_iff_eq, beq_eq_false_iff_ne, bne_iff_ne, bne_eq_false_iff_eq, ne_eq] at *); omega)).2]; exact ⟨_, _, rfl, hV⟩⟩
    · refine l_l rfl rfl rfl ?_
      refine l_l rfl rfl rfl ?_
      refine l_l rfl rfl rfl ?_
      refine l_b rfl rfl rfl (fun h3 => ?_) (fun h3 => ?_)
      · refine l_p rfl rfl ?_
        refine l_p rfl rfl ?_
        refine l_l rfl rfl rfl ?_
        refine l_nil ?_
        refine c_true rfl ?_
        refine c_seq ?_
        refine c_region ?_
        refine l_l rfl rfl rfl ?_
        refine l_nil ?_
        refine c_ret ?_
        exact l_end (fun _ _ => rets_v rfl) (List.Sublist.refl _) ⟨congrArg _ (add_bad (by unfold BadP; dsimp only; (try simp only [decide_eq_true_eq, decide_eq_false_iff_not, beq_iff_eq, beq_eq_false_iff_ne, bne_iff_ne, bne_eq_false_iff_eq, ne_eq] at *); omega)).1.symm, by rw [(add_bad (P := P) (x := ⟨bank, at_, name⟩) (by unfold BadP; dsimp only; (try simp only [decide_eq_true_eq, decide_eq_false_iff_not, beq_iff_eq, beq_eq_false_iff_ne, bne_iff_ne, bne_eq_false_iff_eq, ne_eq] at *); omega)).2]; exact ⟨_, _, rfl, hV⟩⟩
      · refine l_l rfl rfl rfl ?_
        refine l_l rfl rfl rfl ?_
        refine l_l rfl rfl rfl ?_
        refine l_nil ?_
        refine c_cond rfl (fun h4 => ?_) (fun h4 => ?_)
        · refine c_seq ?_
          refine c_region ?_
          refine l_l rfl rfl rfl ?_
          refine l_nil ?_
          refine c_ret ?_
          exact l_end (fun _ _ => rets_v rfl) (List.Sublist.refl _) ⟨congrArg _ (add_bad (by unfold BadP; dsimp only; (try simp only [decide_eq_true_eq, decide_eq_false_iff_not, beq_iff_eq, beq_eq_false_iff_ne, bne_iff_ne, bne_eq_false_iff_eq, ne_eq] at *); omega)).1.symm, by rw [(add_bad (P := P) (x := ⟨bank, at_, name⟩) (by unfold BadP; dsimp only; (try simp only [decide_eq_true_eq, decide_eq_false_iff_not, beq_iff_eq, beq_eq_false_iff_ne, bne_iff_ne, bne_eq_false_iff_eq, ne_eq] at *); omega)).2]; exact ⟨_, _, rfl, hV⟩⟩
        · refine c_skip ?_
          refine c_seq ?_
          refine c_region ?_
          refine l_l rfl rfl rfl ?_
          refine l_l rfl rfl rfl ?_
          refine l_l rfl rfl rfl ?_
          refine l_l (light_struct rfl rfl rfl rfl) rfl rfl ?_
          refine l_x (x_alloc rfl) rfl rfl ?_
          rintro _ _ ⟨b9, rfl, rfl⟩
          refine l_x (by first | exact x_store 0 rfl rfl rfl rfl rfl rfl (by first | rfl | exact Nat.le_of_ble_eq_true rfl | (simp; done)) | exact x_store 1 rfl rfl rfl rfl rfl rfl (by first | rfl | exact Nat.le_of_ble_eq_true rfl | (simp; done)) | exact x_store 2 rfl rfl rfl rfl rfl rfl (by first | rfl | exact Nat.le_of_ble_eq_true rfl | (simp; done)) | exact x_store 3 rfl rfl rfl rfl rfl rfl (by first | rfl | exact Nat.le_of_ble_eq_true rfl | (simp; done))) rfl rfl ?_
          rintro _ _ ⟨rfl, rfl⟩
          refine l_nil ?_
          refine c_seq ?_
          refine c_region ?_
          refine l_l rfl rfl rfl ?_
          refine l_x (x_loadA rfl rfl rfl (by first | exact row_own (by repeat (first | exact .head _ | refine .tail _ ?_ | refine List.mem_append_right _ ?_)) | exact row_own_at (by repeat (first | exact .head _ | refine .tail _ ?_ | refine List.mem_append_right _ ?_)) _ 3 rfl)) rfl rfl ?_
          rintro _ _ ⟨rfl, rfl⟩
          refine l_x (x_val call_29 rfl (fun w hw => nfind_fn b a c P hs hok (by omega) ⟨bank, at_, name⟩ hx w (at_own (by repeat (first | exact .head _ | refine .tail _ ?_ | refine List.mem_append_right _ ?_)) rfl w hw) (hg9.els hw (fun x hx => by repeat (first | exact hx | refine .tail _ ?_))))) rfl rfl ?_
          rintro _ _ ⟨rfl, rfl⟩
          refine l_l rfl rfl rfl ?_
          refine l_l rfl rfl rfl ?_
          refine l_l rfl rfl rfl ?_
          refine l_l rfl rfl rfl ?_
          refine l_l rfl rfl rfl ?_
          refine l_nil ?_
          refine c_seq ?_
          refine c_block ?_
          refine c_seq ?_
          refine c_region ?_
          refine l_l rfl rfl rfl ?_
          refine l_l rfl rfl rfl ?_
          refine l_nil ?_
          refine c_cond rfl (fun h5 => ?_) (fun h5 => ?_)
          · refine c_seq ?_
            refine c_region ?_
            refine l_l rfl rfl rfl ?_
            refine l_nil ?_
            refine c_ret ?_
            exact l_end (fun _ _ => rets_v rfl) (List.sublist_cons_self _ _) ⟨congrArg _ (add_same (by unfold BadP; dsimp only; (try simp only [decide_eq_true_eq, decide_eq_false_iff_not, beq_iff_eq, beq_eq_false_iff_ne, bne_iff_ne, bne_eq_false_iff_eq, ne_eq] at *); omega) (by (try simp only [decide_eq_true_eq, decide_eq_false_iff_not, beq_iff_eq, beq_eq_false_iff_ne, bne_iff_ne, bne_eq_false_iff_eq, ne_eq] at *); omega)).1.symm, by rw [(add_same (P := P) (x := ⟨bank, at_, name⟩) (by unfold BadP; dsimp only; (try simp only [decide_eq_true_eq, decide_eq_false_iff_not, beq_iff_eq, beq_eq_false_iff_ne, bne_iff_ne, bne_eq_false_iff_eq, ne_eq] at *); omega) (by (try simp only [decide_eq_true_eq, decide_eq_false_iff_not, beq_iff_eq, beq_eq_false_iff_ne, bne_iff_ne, bne_eq_false_iff_eq, ne_eq] at *); omega)).2]; exact ⟨_, _, rfl, hV⟩⟩
          · refine c_seq ?_
            refine c_region ?_
            refine l_l rfl rfl rfl ?_
            refine l_l rfl rfl rfl ?_
            refine l_l (light_fa rfl rfl) rfl rfl ?_
            refine l_x (x_load rfl rfl (at_own (by repeat (first | exact .head _ | refine .tail _ ?_ | refine List.mem_append_right _ ?_)) (by rfl))) rfl rfl ?_
            rintro _ _ ⟨rfl, rfl⟩
            refine l_l (by first | exact light_len rfl rfl | exact light_lens rfl rfl | rfl) rfl rfl ?_
            refine l_l rfl rfl rfl ?_
            refine l_l rfl rfl rfl ?_
            refine l_nil ?_
            refine c_cond rfl (fun h6 => ?_) (fun h6 => ?_)
            · refine c_seq ?_
              refine c_region ?_
              refine l_l rfl rfl rfl ?_
              refine l_nil ?_
              refine c_ret ?_
              exact l_end (fun _ _ => rets_v rfl) (List.sublist_cons_self _ _) ⟨congrArg _ (add_full (by unfold BadP; dsimp only; (try simp only [decide_eq_true_eq, decide_eq_false_iff_not, beq_iff_eq, beq_eq_false_iff_ne, bne_iff_ne, bne_eq_false_iff_eq, ne_eq] at *); omega) (by (try simp only [decide_eq_true_eq, decide_eq_false_iff_not, beq_iff_eq, beq_eq_false_iff_ne, bne_iff_ne, bne_eq_false_iff_eq, ne_eq] at *); omega) (by (try simp only [decide_eq_true_eq, decide_eq_false_iff_not, beq_iff_eq, beq_eq_false_iff_ne, bne_iff_ne, bne_eq_false_iff_eq, ne_eq] at *); omega)).1.symm, by rw [(add_full (P := P) (x := ⟨bank, at_, name⟩) (by unfold BadP; dsimp only; (try simp only [decide_eq_true_eq, decide_eq_false_iff_not, beq_iff_eq, beq_eq_false_iff_ne, bne_iff_ne, bne_eq_false_iff_eq, ne_eq] at *); omega) (by (try simp only [decide_eq_true_eq, decide_eq_false_iff_not, beq_iff_eq, beq_eq_false_iff_ne, bne_iff_ne, bne_eq_false_iff_eq, ne_eq] at *); omega) (by (try simp only [decide_eq_true_eq, decide_eq_false_iff_not, beq_iff_eq, beq_eq_false_iff_ne, bne_iff_ne, bne_eq_false_iff_eq, ne_eq] at *); omega)).2]; exact ⟨_, _, rfl, hV⟩⟩
            · refine c_skip ?_
              refine c_seq ?_
              refine c_draw _ [5, 6, 7] (.step true 0 (.step true 1 (.step true 2 (.step true 3 (.step true 4 (.step true 5 (.step true 6 (.step false 7 (.step false 8 (.step true 9 (.step true 10 (.step false 11 .done)))))))))))) rfl (by kernel_rfl) (by kernel_rfl) (fun _ h => h) ?_
              refine d_light rfl rfl rfl rfl rfl ?_
              refine d_light rfl rfl rfl rfl rfl ?_
              refine d_light rfl rfl rfl rfl rfl ?_
              refine d_light rfl (light_fa rfl rfl) rfl rfl rfl ?_
              refine d_load rfl rfl rfl (s_own (by repeat (first | exact .head _ | refine .tail _ ?_ | refine List.mem_append_right _ ?_)) (by rfl)) rfl rfl ?_
              refine d_light rfl rfl rfl rfl rfl ?_
              refine d_loadA rfl rfl rfl rfl (by first | exact srow_own (by repeat (first | exact .head _ | refine .tail _ ?_ | refine List.mem_append_right _ ?_)) | exact srow_own_at (by repeat (first | exact .head _ | refine .tail _ ?_ | refine List.mem_append_right _ ?_)) _ 3 rfl) rfl rfl ?_
              refine d_x rfl (x_slc rfl rfl rfl rfl rfl rfl) rfl rfl (by intro _ _ _ hK x hx; obtain ⟨_, rfl, rfl⟩ := hK; repeat (first | exact hx | exact List.mem_append_left _ hx | refine List.mem_append_right _ ?_ | refine .tail _ ?_)) ?_
              rintro _ _ ⟨b58, rfl, rfl⟩
              refine d_heap (H' := G ++ [(b58, _), (b9, _), (b, _)]) (fun _ h => St.fl [[_], [_], [_], G] [3, 0, 1, 2] rfl h) ?_
              refine d_x rfl (x_callF (A := G) (G := [(b58, blk (cN ⟨bank, at_, name⟩) 86), (b9, _), (b, _)]) (G.map (·.1)) call_30 rfl (fun _ hb => mem_fst hb) (fun w hw => insert_fn P (cnt P (key ⟨bank, at_, name⟩)) ⟨bank, at_, name⟩ _ G hV (cnt_le _ _) (by omega) b58 w (hw.holds (b58, _) (by repeat (first | exact .head _ | refine .tail _ ?_ | refine List.mem_append_right _ ?_))) (hw.apart (o := blk (cN ⟨bank, at_, name⟩) 86) (.head _)) (St.lentV hw))) rfl rfl (by intro h; cases h) ?_
              rintro v59 _ ⟨G59, hV59, rfl⟩
              obtain ⟨a59, c59, rfl⟩ := hV59.slice
              refine d_heap (H' := (b, _) :: G59) (fun _ h => St.fl [G59, [_], [_], [_]] [3, 0] rfl h) ?_
              refine d_light rfl rfl rfl rfl rfl ?_
              refine d_light rfl (light_fa rfl rfl) rfl rfl rfl ?_
              refine d_x rfl (x_store 0 rfl rfl rfl rfl rfl rfl (by simp)) rfl rfl (by intro h; cases h) ?_
              rintro _ _ ⟨rfl, rfl⟩
              refine d_nil ?_
              refine c_seq ?_
              refine c_region ?_
              refine l_l rfl rfl rfl ?_
              refine l_nil ?_
              refine c_ret ?_
              have hao := add_ok (P := P) (x := ⟨bank, at_, name⟩) (by unfold BadP; dsimp only; (try simp only [decide_eq_true_eq, decide_eq_false_iff_not, beq_iff_eq, beq_eq_false_iff_ne, bne_iff_ne, bne_eq_false_iff_eq, ne_eq] at *); omega) (by (try simp only [decide_eq_true_eq, decide_eq_false_iff_not, beq_iff_eq, beq_eq_false_iff_ne, bne_iff_ne, bne_eq_false_iff_eq, ne_eq] at *); omega) (by (try simp only [decide_eq_true_eq, decide_eq_false_iff_not, beq_iff_eq, beq_eq_false_iff_ne, bne_iff_ne, bne_eq_false_iff_eq, ne_eq] at *); omega)
              exact l_end (fun _ _ => rets_v rfl) (List.Sublist.refl _) ⟨congrArg _ hao.1.symm, by rw [hao.2]; exact ⟨_, _, rfl, by rw [ins_len]; exact hV59⟩⟩

theorem findp_fn (b : Nat) (P : List Nm) (hs : Srt P) (hok : ∀ y ∈ P, AtOk y) (hlen : P.length ≤ 64) (bank at_ : Int) (hx : 0 ≤ at_ ∧ at_ < 65536) (w : World) (hW : NamW w b P) :
    Does Try.prog 19 [.pointer (some ⟨b, 0, none⟩), .int .i64 bank, .int .u16 at_] w [] (fun v H => H = [] ∧ v = findV (findN P bank at_) at_) := by
  obtain ⟨a, c, q0, qc, hE⟩ := hW.list
  refine does_of Try.func19 rfl rfl rfl (St.refl w) ?_
  refine c_seq ?_
  refine c_region ?_
  refine l_l rfl rfl rfl ?_
  refine l_l rfl rfl rfl ?_
  refine l_l rfl rfl rfl ?_
  refine l_nil ?_
  refine c_seq ?_
  refine c_seq ?_
  refine c_region ?_
  refine l_l rfl rfl rfl ?_
  refine l_l rfl rfl rfl ?_
  refine l_nil ?_
  refine c_false rfl ?_
  refine c_skip ?_
  refine c_seq ?_
  refine c_region ?_
  refine l_l rfl rfl rfl ?_
  refine l_l rfl rfl rfl ?_
  refine l_l rfl rfl rfl ?_
  refine l_l (light_struct rfl rfl rfl rfl) rfl rfl ?_
  refine l_x (x_val call_29 rfl (fun w hw => nfind_fn b a c P hs hok (by omega) ⟨bank, at_, .mk #[]⟩ hx w (at_old q0 (by simp) w hw) (hE.later0 hw))) rfl rfl ?_
  rintro _ _ ⟨rfl, rfl⟩
  rw [show key ⟨bank, at_, .mk #[]⟩ = keyB bank at_ from rfl]
  refine l_l rfl rfl rfl ?_
  refine l_l rfl rfl rfl ?_
  refine l_l rfl rfl rfl ?_
  refine l_l rfl rfl rfl ?_
  refine l_l rfl rfl rfl ?_
  refine l_nil ?_
  refine c_seq ?_
  refine c_seq ?_
  refine c_region ?_
  refine l_l rfl rfl rfl ?_
  refine l_l rfl rfl rfl ?_
  refine l_nil ?_
  refine c_cond rfl (fun h1 => ?_) (fun h1 => ?_)
  · have hff : fnd P (keyB bank at_) = false := by simpa using h1
    have hcl5 := cnt_le P (keyB bank at_)
    rcases (show (cnt P (keyB bank at_)) = 0 ∨ ∃ m, (cnt P (keyB bank at_)) = m + 1 by cases (cnt P (keyB bank at_)) <;> simp) with hc0 | ⟨m, hc0⟩
    · refine c_region ?_
      refine l_l rfl rfl rfl ?_
      refine l_as (v := (.int .i64 (-1))) rfl rfl rfl (congrArg _ (by rw [hc0]; rfl)) ?_
      refine l_l rfl rfl rfl ?_
      refine l_nil ?_
      refine c_seq ?_
      refine c_seq ?_
      refine c_region ?_
      refine l_l rfl rfl rfl ?_
      refine l_sure true rfl rfl rfl rfl ?_
      refine l_l rfl rfl rfl ?_
      refine l_p rfl rfl ?_
      refine l_p rfl rfl ?_
      refine l_p rfl rfl ?_
      refine l_p rfl rfl ?_
      refine l_p rfl rfl ?_
      refine l_p rfl rfl ?_
      refine l_p rfl rfl ?_
      refine l_p rfl rfl ?_
      refine l_p rfl rfl ?_
      refine l_p rfl rfl ?_
      refine l_l rfl rfl rfl ?_
      refine l_nil ?_
      refine c_true rfl ?_
      refine c_seq ?_
      refine c_region ?_
      refine l_l rfl rfl rfl ?_
      refine l_l rfl rfl rfl ?_
      refine l_l rfl rfl rfl ?_
      refine l_nil ?_
      refine c_ret ?_
      exact l_end0 (fun _ _ => rets_v3 rfl rfl rfl) ⟨rfl, by rw [findN_neg (by rw [idxN_f hff]; omega)]; rfl⟩
    · refine c_region ?_
      refine l_l rfl rfl rfl ?_
      refine l_as (v := (.int .i64 ((m : Nat) : Int))) rfl rfl rfl (congrArg _ (by rw [wrap_i64 (by omega) (by omega)]; omega)) ?_
      refine l_l rfl rfl rfl ?_
      refine l_nil ?_
      refine c_seq ?_
      refine c_seq ?_
      have hcl := cnt_le P (keyB bank at_)
      obtain ⟨y, hy⟩ : ∃ y, P[m]? = some y := ⟨_, get_some (by omega)⟩
      obtain ⟨br, off, rfl, hr⟩ := hE.row (i := 0) (by have := (List.getElem?_eq_some_iff.1 hy).1; omega)
      have hyo := hok y (List.mem_of_getElem? hy)
      have hmlt := (List.getElem?_eq_some_iff.1 hy).1
      refine c_region ?_
      refine l_l rfl rfl rfl ?_
      refine l_sure false rfl rfl rfl (by (try simp only [decide_eq_true_eq, decide_eq_false_iff_not, beq_iff_eq, beq_eq_false_iff_ne, bne_iff_ne, bne_eq_false_iff_eq, ne_eq] at *); omega) ?_
      refine l_l rfl rfl rfl ?_
      refine l_l rfl rfl rfl ?_
      refine l_l rfl rfl rfl ?_
      refine l_l (light_fa rfl rfl) rfl rfl ?_
      refine l_x (x_load rfl rfl (at_old q0 (by simp))) rfl rfl ?_
      rintro _ _ ⟨rfl, rfl⟩
      refine l_l rfl rfl rfl ?_
      refine l_l (idx_slice (s := 3) m rfl rfl rfl rfl hmlt) rfl rfl ?_
      refine l_l (light_fa rfl rfl) rfl rfl ?_
      refine l_x (x_load rfl rfl (fun w hw => (row_old hr (by simp) w hw).at cN_len hy 0 rfl)) rfl rfl ?_
      rintro _ _ ⟨rfl, rfl⟩
      refine l_l rfl rfl rfl ?_
      refine l_l rfl rfl rfl ?_
      refine l_l rfl rfl rfl ?_
      refine l_nil ?_
      refine c_cond rfl (fun h2 => ?_) (fun h2 => ?_)
      · refine c_seq ?_
        refine c_region ?_
        refine l_l rfl rfl rfl ?_
        refine l_l rfl rfl rfl ?_
        refine l_l rfl rfl rfl ?_
        refine l_nil ?_
        refine c_ret ?_
        exact l_end0 (fun _ _ => rets_v3 rfl rfl rfl) ⟨rfl, by rw [findN_no (m := m) (by rw [idxN_f hff]; omega) hy (by (try simp only [decide_eq_true_eq, decide_eq_false_iff_not, beq_iff_eq, beq_eq_false_iff_ne, bne_iff_ne, bne_eq_false_iff_eq, ne_eq] at *); omega)]; rfl⟩
      · refine c_skip ?_
        refine c_seq ?_
        have hyb := (find_best (P := P) (W := P) ⟨hs, .refl _, hok, hlen⟩ (bank := bank) hx)
        rw [findN_yes (m := m) (by rw [idxN_f hff]; omega) hy (by (try simp only [decide_eq_true_eq, decide_eq_false_iff_not, beq_iff_eq, beq_eq_false_iff_ne, bne_iff_ne, bne_eq_false_iff_eq, ne_eq] at *); omega)] at hyb
        have hya := hyb.2.1.2
        have hyo1 := hyo.1
        refine c_draw _ [4, 8, 9, 10, 11, 12, 13, 14, 15, 16, 17, 18] (.step true 0 (.step true 1 (.step true 2 (.step true 3 (.step true 4 (.step true 5 (.step true 6 (.step true 7 (.step true 8 (.step true 9 (.step true 10 (.step true 11 (.step true 12 (.step true 13 (.step true 14 (.step true 15 (.step true 16 (.step true 17 (.step true 18 (.step true 19 (.step true 20 .done))))))))))))))))))))) rfl (by kernel_rfl) (by kernel_rfl) (fun _ h => h) ?_
        refine d_light rfl rfl rfl rfl rfl ?_
        refine d_light rfl rfl rfl rfl rfl ?_
        refine d_light rfl (light_fa rfl rfl) rfl rfl rfl ?_
        refine d_load rfl rfl rfl (s_old q0 (by simp)) rfl rfl ?_
        refine d_light rfl rfl rfl rfl rfl ?_
        refine d_light rfl (idx_slice (s := 3) m rfl rfl rfl rfl hmlt) rfl rfl rfl ?_
        refine d_light rfl (light_fa rfl rfl) rfl rfl rfl ?_
        refine d_load rfl rfl rfl (fun w hw => (srow_old hr (by simp) w hw).at cN_len hy 2 rfl) rfl rfl ?_
        refine d_light rfl rfl rfl rfl rfl ?_
        refine d_light rfl rfl rfl rfl rfl ?_
        refine d_light rfl rfl rfl rfl rfl ?_
        refine d_light rfl (light_fa rfl rfl) rfl rfl rfl ?_
        refine d_load rfl rfl rfl (s_old q0 (by simp)) rfl rfl ?_
        refine d_light rfl rfl rfl rfl rfl ?_
        refine d_light rfl (idx_slice (s := 3) m rfl rfl rfl rfl hmlt) rfl rfl rfl ?_
        refine d_light rfl (light_fa rfl rfl) rfl rfl rfl ?_
        refine d_load rfl rfl rfl (fun w hw => (srow_old hr (by simp) w hw).at cN_len hy 1 rfl) rfl rfl ?_
        refine d_as (v := (.int .u16 (at_ - y.at_))) rfl rfl rfl rfl rfl (congrArg _ (wrap_u16_id (by omega) (by omega))) ?_
        refine d_light rfl rfl rfl rfl rfl ?_
        refine d_light rfl rfl rfl rfl rfl ?_
        refine d_light rfl rfl rfl rfl rfl ?_
        refine d_nil ?_
        refine c_ret ?_
        exact l_end0 (fun _ _ => rets_v3 rfl rfl rfl) ⟨rfl, by rw [findN_yes (m := m) (by rw [idxN_f hff]; omega) hy (by (try simp only [decide_eq_true_eq, decide_eq_false_iff_not, beq_iff_eq, beq_eq_false_iff_ne, bne_iff_ne, bne_eq_false_iff_eq, ne_eq] at *); omega)]; rfl⟩
  · refine c_skip ?_
    refine c_seq ?_
    refine c_seq ?_
    have hft : fnd P (keyB bank at_) = true := by simpa using h1
    have hlt : (cnt P (keyB bank at_)) < P.length := by
      rcases Nat.lt_or_ge (cnt P (keyB bank at_)) P.length with h9 | h9
      · exact h9
      · have := fnd_no h9; simp_all
    obtain ⟨y, hy⟩ : ∃ y, P[(cnt P (keyB bank at_))]? = some y := ⟨_, get_some hlt⟩
    obtain ⟨br, off, rfl, hr⟩ := hE.row (i := 0) (by have := (List.getElem?_eq_some_iff.1 hy).1; omega)
    have hyo := hok y (List.mem_of_getElem? hy)
    have hmlt := (List.getElem?_eq_some_iff.1 hy).1
    refine c_region ?_
    refine l_l rfl rfl rfl ?_
    refine l_sure false rfl rfl rfl (by (try simp only [decide_eq_true_eq, decide_eq_false_iff_not, beq_iff_eq, beq_eq_false_iff_ne, bne_iff_ne, bne_eq_false_iff_eq, ne_eq] at *); omega) ?_
    refine l_l rfl rfl rfl ?_
    refine l_l rfl rfl rfl ?_
    refine l_l rfl rfl rfl ?_
    refine l_l (light_fa rfl rfl) rfl rfl ?_
    refine l_x (x_load rfl rfl (at_old q0 (by simp))) rfl rfl ?_
    rintro _ _ ⟨rfl, rfl⟩
    refine l_l rfl rfl rfl ?_
    refine l_l (idx_slice (s := 3) (cnt P (keyB bank at_)) rfl rfl rfl rfl hmlt) rfl rfl ?_
    refine l_l (light_fa rfl rfl) rfl rfl ?_
    refine l_x (x_load rfl rfl (fun w hw => (row_old hr (by simp) w hw).at cN_len hy 0 rfl)) rfl rfl ?_
    rintro _ _ ⟨rfl, rfl⟩
    refine l_l rfl rfl rfl ?_
    refine l_l rfl rfl rfl ?_
    refine l_l rfl rfl rfl ?_
    refine l_nil ?_
    refine c_cond rfl (fun h3 => ?_) (fun h3 => ?_)
    · refine c_seq ?_
      refine c_region ?_
      refine l_l rfl rfl rfl ?_
      refine l_l rfl rfl rfl ?_
      refine l_l rfl rfl rfl ?_
      refine l_nil ?_
      refine c_ret ?_
      exact l_end0 (fun _ _ => rets_v3 rfl rfl rfl) ⟨rfl, by rw [findN_no (m := (cnt P (keyB bank at_))) (idxN_t hft) hy (by (try simp only [decide_eq_true_eq, decide_eq_false_iff_not, beq_iff_eq, beq_eq_false_iff_ne, bne_iff_ne, bne_eq_false_iff_eq, ne_eq] at *); omega)]; rfl⟩
    · refine c_skip ?_
      refine c_seq ?_
      have hyb := (find_best (P := P) (W := P) ⟨hs, .refl _, hok, hlen⟩ (bank := bank) hx)
      rw [findN_yes (m := (cnt P (keyB bank at_))) (idxN_t hft) hy (by (try simp only [decide_eq_true_eq, decide_eq_false_iff_not, beq_iff_eq, beq_eq_false_iff_ne, bne_iff_ne, bne_eq_false_iff_eq, ne_eq] at *); omega)] at hyb
      have hya := hyb.2.1.2
      have hyo1 := hyo.1
      refine c_draw _ [4, 8, 9, 10, 11, 12, 13, 14, 15, 16, 17, 18] (.step true 0 (.step true 1 (.step true 2 (.step true 3 (.step true 4 (.step true 5 (.step true 6 (.step true 7 (.step true 8 (.step true 9 (.step true 10 (.step true 11 (.step true 12 (.step true 13 (.step true 14 (.step true 15 (.step true 16 (.step true 17 (.step true 18 (.step true 19 (.step true 20 .done))))))))))))))))))))) rfl (by kernel_rfl) (by kernel_rfl) (fun _ h => h) ?_
      refine d_light rfl rfl rfl rfl rfl ?_
      refine d_light rfl rfl rfl rfl rfl ?_
      refine d_light rfl (light_fa rfl rfl) rfl rfl rfl ?_
      refine d_load rfl rfl rfl (s_old q0 (by simp)) rfl rfl ?_
      refine d_light rfl rfl rfl rfl rfl ?_
      refine d_light rfl (idx_slice (s := 3) (cnt P (keyB bank at_)) rfl rfl rfl rfl hmlt) rfl rfl rfl ?_
      refine d_light rfl (light_fa rfl rfl) rfl rfl rfl ?_
      refine d_load rfl rfl rfl (fun w hw => (srow_old hr (by simp) w hw).at cN_len hy 2 rfl) rfl rfl ?_
      refine d_light rfl rfl rfl rfl rfl ?_
      refine d_light rfl rfl rfl rfl rfl ?_
      refine d_light rfl rfl rfl rfl rfl ?_
      refine d_light rfl (light_fa rfl rfl) rfl rfl rfl ?_
      refine d_load rfl rfl rfl (s_old q0 (by simp)) rfl rfl ?_
      refine d_light rfl rfl rfl rfl rfl ?_
      refine d_light rfl (idx_slice (s := 3) (cnt P (keyB bank at_)) rfl rfl rfl rfl hmlt) rfl rfl rfl ?_
      refine d_light rfl (light_fa rfl rfl) rfl rfl rfl ?_
      refine d_load rfl rfl rfl (fun w hw => (srow_old hr (by simp) w hw).at cN_len hy 1 rfl) rfl rfl ?_
      refine d_as (v := (.int .u16 (at_ - y.at_))) rfl rfl rfl rfl rfl (congrArg _ (wrap_u16_id (by omega) (by omega))) ?_
      refine d_light rfl rfl rfl rfl rfl ?_
      refine d_light rfl rfl rfl rfl rfl ?_
      refine d_light rfl rfl rfl rfl rfl ?_
      refine d_nil ?_
      refine c_ret ?_
      exact l_end0 (fun _ _ => rets_v3 rfl rfl rfl) ⟨rfl, by rw [findN_yes (m := (cnt P (keyB bank at_))) (idxN_t hft) hy (by (try simp only [decide_eq_true_eq, decide_eq_false_iff_not, beq_iff_eq, beq_eq_false_iff_ne, bne_iff_ne, bne_eq_false_iff_eq, ne_eq] at *); omega)]; rfl⟩

end Go.Proofs.Ytmafgccagaihbaa
