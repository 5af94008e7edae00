/- The contract of the law of bytes. -/
import Derived.Test.YtkifhldkhemdlaaAwake
import Derived.Test.YtkifhldkhemdlaaCalls
namespace Go.Proofs.Ytkifhldkhemdlaa
open Go Go.VV Go.Proofs
set_option linter.unusedSimpArgs false
set_option linter.unusedVariables false
set_option maxHeartbeats 4000000 in
theorem bytes_fn (n : Int) (a : Option Addr) (cap : Nat) (l : List Int) (hl : Byts l) (x : Int) (hx : 0 ≤ x) (w : World) (hN : Ns w .u8 a l) :
    Does Try.prog 3 [.int .i64 n, .slice a l.length cap, .int .u64 x] w [] (fun v H => H = [] ∧ v = .bool true) := by
  refine does_of Try.func3 rfl rfl rfl (St.refl w) ?_
  refine c_seq ?_
  refine c_region ?_
  refine l_l rfl rfl rfl ?_
  refine l_nil ?_
  refine c_seq ?_
  refine c_seq ?_
  refine c_region ?_
  refine l_x (x_val call_9 rfl (fun w hw => awake_fn w)) rfl rfl ?_
  rintro _ _ ⟨rfl, rfl⟩
  refine l_l rfl rfl rfl ?_
  refine l_b rfl rfl rfl (fun h1 => ?_) (fun h1 => ?_)
  · refine l_p rfl rfl ?_
    refine l_p rfl rfl ?_
    refine l_p rfl rfl ?_
    refine l_l rfl rfl rfl ?_
    refine l_nil ?_
    refine c_true rfl ?_
    refine c_seq ?_
    refine c_region ?_
    refine l_x (x_val call_9 rfl (fun w hw => awake_fn w)) rfl rfl ?_
    rintro _ _ ⟨rfl, rfl⟩
    refine l_l rfl rfl rfl ?_
    refine l_nil ?_
    refine c_ret ?_
    exact l_end0 (fun _ _ => rets_v rfl) ⟨rfl, rfl⟩
  · refine l_l rfl rfl rfl ?_
    refine l_l (by first | exact light_len rfl rfl | exact light_lens rfl rfl | rfl) rfl rfl ?_
    refine l_l rfl rfl rfl ?_
    refine l_l rfl rfl rfl ?_
    refine l_nil ?_
    refine c_cond rfl (fun h2 => ?_) (fun h2 => ?_)
    · refine c_seq ?_
      refine c_region ?_
      refine l_x (x_val call_9 rfl (fun w hw => awake_fn w)) rfl rfl ?_
      rintro _ _ ⟨rfl, rfl⟩
      refine l_l rfl rfl rfl ?_
      refine l_nil ?_
      refine c_ret ?_
      exact l_end0 (fun _ _ => rets_v rfl) ⟨rfl, rfl⟩
    · refine c_skip ?_
      refine c_seq ?_
      refine c_region ?_
      refine l_l rfl rfl rfl ?_
      refine l_x (x_call call_10 rfl (fun w hw => new_fn n w)) rfl rfl ?_
      rintro _ _ ⟨G27, ⟨bl, rfl, rfl⟩, rfl⟩
      refine l_l rfl rfl rfl ?_
      refine l_nil ?_
      refine c_seq ?_
      refine c_region ?_
      refine l_l rfl rfl rfl ?_
      refine l_nil ?_
      refine c_seq ?_
      refine c_seq ?_
      refine c_region ?_
      refine l_l rfl rfl rfl ?_
      refine l_l (by first | exact light_len rfl rfl | exact light_lens rfl rfl | rfl) rfl rfl ?_
      refine l_l rfl rfl rfl ?_
      refine l_nil ?_
      refine c_block ?_
      refine c_loop (σ := LS) [8, 9, 10, 30, 31, 32, 33, 34, 35, 36, 37, 38, 39, 40, 41, 42, 43, 44, 45, 46, 47, 48, 49, 50, 51, 52, 53, 54, 55, 56] (fun s => [(8, .int .u64 s.t), (30, .int .i64 s.k)]) (fun s => s.G ++ s.D) (fun s => s.k ≤ l.length ∧ LJ bl (max 2 (min n 256)) s.k s.t s.ms s.G s.D ∧ ∀ m ∈ s.ms, m.l = tb m.t) (fun s => l.length - s.k) ⟨0, 0, [], [(bl, blk [.slice none 0 0, .int .i64 (max 2 (min n 256))] 53)], []⟩ ?_ ?_ ?_ ?_
      · exact ⟨Nat.zero_le _, LJ.start bl _, fun _ h => by cases h⟩
      · exact .cons rfl (.cons rfl .nil)
      · exact fun _ h => h
      · rintro ⟨k, t, ms, G, D⟩ y ⟨hk, hJ, hD⟩
        dsimp only at hk hJ hD ⊢
        refine c_seq ?_
        refine c_region ?_
        refine l_l rfl rfl rfl ?_
        refine l_nil ?_
        refine c_seq ?_
        refine c_cond rfl (fun h3 => ?_) (fun h3 => ?_)
        · refine c_skip ?_
          refine c_seq ?_
          refine c_block ?_
          refine c_seq ?_
          refine c_region ?_
          refine l_l rfl rfl rfl ?_
          refine l_l rfl rfl rfl ?_
          refine l_nil ?_
          refine c_cut (σ := Int) [8, 34, 33, 35, 36, 37, 38, 39, 40, 41, 42, 43] (fun t' => [(8, .int .u64 t')]) (fun _ => G ++ D) (fun t' => Nxt k t t') ?_ ?_
          · refine c_seq ?_
            refine c_region ?_
            refine l_l rfl rfl rfl ?_
            refine l_l rfl rfl rfl ?_
            refine l_nil ?_
            refine c_cond rfl (fun h4 => ?_) (fun h4 => ?_)
            · obtain ⟨bN, oN, rfl, hr⟩ := hN.row (i := k) (by (try simp only [decide_eq_true_eq, decide_eq_false_iff_not, beq_iff_eq, beq_eq_false_iff_ne, bne_iff_ne, bne_eq_false_iff_eq, ne_eq] at *); omega)
              refine c_region ?_
              refine l_l rfl rfl rfl ?_
              refine l_l rfl rfl rfl ?_
              refine l_l rfl rfl rfl ?_
              refine l_l (idx_slice1 k rfl rfl rfl rfl (by (try simp only [decide_eq_true_eq, decide_eq_false_iff_not, beq_iff_eq, beq_eq_false_iff_ne, bne_iff_ne, bne_eq_false_iff_eq, ne_eq] at *); omega)) rfl rfl ?_
              refine l_x (x_load rfl rfl (at_old (hr.int (by (try simp only [decide_eq_true_eq, decide_eq_false_iff_not, beq_iff_eq, beq_eq_false_iff_ne, bne_iff_ne, bne_eq_false_iff_eq, ne_eq] at *); omega)) (by simp))) rfl rfl ?_
              rintro _ _ ⟨rfl, rfl⟩
              refine l_l (rem_pos rfl rfl (by decide)) rfl rfl ?_
              refine l_l rfl rfl rfl ?_
              refine l_l rfl rfl rfl ?_
              refine l_as (v := (.int .u64 (t + (1 + l.getD k 0 % 9)))) rfl rfl rfl (congrArg _ (step9 hJ.lo hJ.hi (by (try simp only [decide_eq_true_eq, decide_eq_false_iff_not, beq_iff_eq, beq_eq_false_iff_ne, bne_iff_ne, bne_eq_false_iff_eq, ne_eq] at *); omega) (hl.get k))) ?_
              refine l_l rfl rfl rfl ?_
              refine l_nil ?_
              exact ⟨_, nxt9 (by (try simp only [decide_eq_true_eq, decide_eq_false_iff_not, beq_iff_eq, beq_eq_false_iff_ne, bne_iff_ne, bne_eq_false_iff_eq, ne_eq] at *); omega), .cons rfl .nil, (by repeat (first | exact Agree.refl _ _ | exact Agree.mix rfl | refine Agree.put rfl ?_ | refine Agree.keep rfl ?_)), fun _ h => h⟩
            · refine c_skip ?_
              exact ⟨_, nxt0 (by (try simp only [decide_eq_true_eq, decide_eq_false_iff_not, beq_iff_eq, beq_eq_false_iff_ne, bne_iff_ne, bne_eq_false_iff_eq, ne_eq] at *); omega) (hJ.zero (by (try simp only [decide_eq_true_eq, decide_eq_false_iff_not, beq_iff_eq, beq_eq_false_iff_ne, bne_iff_ne, bne_eq_false_iff_eq, ne_eq] at *); omega)).2, .cons rfl .nil, (by repeat (first | exact Agree.refl _ _ | exact Agree.mix rfl | refine Agree.put rfl ?_ | refine Agree.keep rfl ?_)), fun _ h => h⟩
          · intro t' y9 hn
            refine c_seq ?_
            refine c_region ?_
            refine l_l rfl rfl rfl ?_
            refine l_as (v := (.int .u8 (t' % 256))) rfl rfl rfl (congrArg _ (byt_t _)) ?_
            refine l_l rfl rfl rfl ?_
            refine l_l (shr_pos rfl rfl (by decide)) rfl rfl ?_
            refine l_as (v := (.int .u8 (t' / 256 % 256))) rfl rfl rfl (congrArg _ (byt_t8 _ (hJ.nxt hn))) ?_
            refine l_x (x_slc rfl rfl rfl rfl rfl rfl) rfl rfl ?_
            rintro _ _ ⟨b49, rfl, rfl⟩
            refine l_l rfl rfl rfl ?_
            refine l_nil ?_
            refine c_seq ?_
            refine c_region ?_
            refine l_l rfl rfl rfl ?_
            refine l_l rfl rfl rfl ?_
            refine l_l rfl rfl rfl ?_
            refine l_heap (H' := (G ++ D) ++ [(b49, _)]) (fun _ h => h.perm (List.perm_append_comm (l₁ := [_]) (l₂ := _))) ?_
            refine l_heap (H' := G ++ (D ++ [(b49, _)])) (fun _ h => by rw [List.append_assoc] at h; exact h) ?_
            refine l_x (x_callF (A := G) (G := D ++ [(b49, _)]) _ call_11 rfl (fun _ hb => mem_fst hb) (fun w hw => add_at (cap_ok n) hJ (by (try simp only [decide_eq_true_eq, decide_eq_false_iff_not, beq_iff_eq, beq_eq_false_iff_ne, bne_iff_ne, bne_eq_false_iff_eq, ne_eq] at *); omega) hn (l := tb t') (by simp [tb]) hw (byt_away (l := tb t') hw (List.mem_append_right _ (.head _))))) rfl rfl ?_
            rintro _ _ ⟨_, ⟨rfl, mk, G', D', e1, f1, rfl, hJ'⟩, rfl⟩
            refine l_heap (H' := (b49, blk ((tb t').map (.int .u8)) 5) :: ((G' ++ D') ++ D)) (fun _ h => h.perm (by rw [← List.append_assoc]; exact List.perm_append_comm (l₂ := [_]))) ?_
            refine l_nil ?_
            refine c_region ?_
            refine l_l rfl rfl rfl ?_
            refine l_l (by first | exact idx_array1 2 rfl rfl rfl rfl (by decide) | exact idx_slice1 2 rfl rfl rfl rfl (by decide) | exact idx_array 2 rfl rfl rfl rfl (by decide) | exact idx_slice 2 rfl rfl rfl rfl (by decide)) rfl rfl ?_
            refine l_x (by first | exact x_store 0 rfl rfl rfl rfl rfl rfl (by first | rfl | exact Nat.le_of_ble_eq_true rfl | (simp; done)) | exact x_store 1 rfl rfl rfl rfl rfl rfl (by first | rfl | exact Nat.le_of_ble_eq_true rfl | (simp; done)) | exact x_store 2 rfl rfl rfl rfl rfl rfl (by first | rfl | exact Nat.le_of_ble_eq_true rfl | (simp; done)) | exact x_store 3 rfl rfl rfl rfl rfl rfl (by first | rfl | exact Nat.le_of_ble_eq_true rfl | (simp; done))) rfl rfl ?_
            rintro _ _ ⟨rfl, rfl⟩
            refine l_nil ?_
            refine c_region ?_
            refine l_l rfl rfl rfl ?_
            refine l_l rfl rfl rfl ?_
            refine l_nil ?_
            exact ⟨⟨k + 1, t', _, G', D' ++ D⟩, ⟨by (try simp only [decide_eq_true_eq, decide_eq_false_iff_not, beq_iff_eq, beq_eq_false_iff_ne, bne_iff_ne, bne_eq_false_iff_eq, ne_eq] at *); omega, hJ', tb_keep hD (by rw [f1, e1])⟩, by (try simp only [decide_eq_true_eq, decide_eq_false_iff_not, beq_iff_eq, beq_eq_false_iff_ne, bne_iff_ne, bne_eq_false_iff_eq, ne_eq] at *); omega, .cons rfl (.cons (congrArg _ (succ_law (by (try simp only [decide_eq_true_eq, decide_eq_false_iff_not, beq_iff_eq, beq_eq_false_iff_ne, bne_iff_ne, bne_eq_false_iff_eq, ne_eq] at *); omega))) .nil), (by repeat (first | exact Agree.refl _ _ | exact Agree.mix rfl | refine Agree.put rfl ?_ | refine Agree.keep rfl ?_)), fun _ h => by dsimp only; rw [← List.append_assoc]; exact h.sub (List.sublist_cons_self _ _)⟩
        · refine c_exit rfl ?_
          refine c_seq ?_
          refine c_region ?_
          refine l_l rfl rfl rfl ?_
          refine l_l rfl rfl rfl ?_
          refine l_x (x_call call_12 rfl (fun w hw => Before_fn bl _ ms hJ.rise (by have := hJ.len; have := cap_ok n; omega) x w (hJ.line.lineW hw (fun x hx => by simp only [List.mem_append, List.mem_cons]; simp only [hx, true_or, or_true])) (hJ.dat.datW hw (fun x hx => by simp only [List.mem_append, List.mem_cons]; simp only [hx, true_or, or_true])))) rfl rfl ?_
          rintro _ _ ⟨G60, ⟨v60, rfl, hV60⟩, rfl⟩
          obtain ⟨a60, c60, rfl, hc60, hB60⟩ := hV60.slice
          refine l_l rfl rfl rfl ?_
          refine l_l rfl rfl rfl ?_
          refine l_l rfl rfl rfl ?_
          refine l_l rfl rfl rfl ?_
          refine l_l rfl rfl rfl ?_
          refine l_l rfl rfl rfl ?_
          refine l_l rfl rfl rfl ?_
          refine l_nil ?_
          refine c_seq ?_
          refine c_seq ?_
          refine c_region ?_
          refine l_l rfl rfl rfl ?_
          refine l_l (by first | exact light_len rfl rfl | exact light_lens rfl rfl | rfl) rfl rfl ?_
          refine l_l rfl rfl rfl ?_
          refine l_nil ?_
          refine c_cond rfl (fun h5 => ?_) (fun h5 => ?_)
          · refine c_seq ?_
            refine c_region ?_
            refine l_l rfl rfl rfl ?_
            refine l_l rfl rfl rfl ?_
            refine l_l rfl rfl rfl ?_
            refine l_nil ?_
            refine c_ret ?_
            exact l_end0 (fun _ _ => rets_v rfl) ⟨rfl, (by rw [(hJ.zero (by (try simp only [decide_eq_true_eq, decide_eq_false_iff_not, beq_iff_eq, beq_eq_false_iff_ne, bne_iff_ne, bne_eq_false_iff_eq, ne_eq] at *); omega)).1]; rfl)⟩
          · refine c_skip ?_
            refine c_seq ?_
            refine c_seq ?_
            obtain ⟨hp0, hp1, hp2⟩ := hJ.more (by (try simp only [decide_eq_true_eq, decide_eq_false_iff_not, beq_iff_eq, beq_eq_false_iff_ne, bne_iff_ne, bne_eq_false_iff_eq, ne_eq] at *); omega)
            have hb0 : 0 ≤ bef ms x := bef_nn hJ.rise hp0 hp1 hx
            have hL3 := befM_tb hD hb0
            have hT0 : 0 ≤ (befM ms x).t := (bef_time hJ.rise (by omega)).2.1
            rw [hL3] at hV60 ⊢
            obtain ⟨b60, cc60, sp60, hv60, rfl, hz60, hcl60, hmx60⟩ := vec_some hV60 (by simp [tb])
            cases hv60
            refine c_region ?_
            refine l_l rfl rfl rfl ?_
            refine l_l rfl rfl rfl ?_
            refine l_sure false rfl rfl rfl (by rw [decide_eq_true hb0]; rfl) ?_
            refine l_l rfl rfl rfl ?_
            refine l_l (by first | exact light_len rfl rfl | exact light_lens rfl rfl | rfl) rfl rfl ?_
            refine l_sure false rfl rfl rfl rfl ?_
            refine l_l rfl rfl rfl ?_
            refine l_l rfl rfl rfl ?_
            refine l_l rfl rfl rfl ?_
            refine l_l rfl rfl rfl ?_
            refine l_sure false rfl rfl rfl (by simp only [decide_eq_false_iff_not]; have := befM_le hJ.rise hb0; omega) ?_
            refine l_l rfl rfl rfl ?_
            refine l_nil ?_
            refine c_false rfl ?_
            refine c_skip ?_
            refine c_seq ?_
            refine c_region ?_
            refine l_l rfl rfl rfl ?_
            refine l_l rfl rfl rfl ?_
            refine l_as (v := (.int .u8 ((befM ms x).t % 256))) rfl rfl rfl (congrArg _ (byt_t _)) ?_
            refine l_l rfl rfl rfl ?_
            refine l_l (shr_pos rfl rfl (by decide)) rfl rfl ?_
            refine l_as (v := (.int .u8 ((befM ms x).t / 256 % 256))) rfl rfl rfl (congrArg _ (byt_t8 _ hT0)) ?_
            refine l_x (x_slc rfl rfl rfl rfl rfl rfl) rfl rfl ?_
            rintro _ _ ⟨b87, rfl, rfl⟩
            refine l_x (x_val call_13 rfl (fun w hw => same2_fn _ _ _ _ (tb (befM ms x).t) (tb (befM ms x).t) (by simp [tb]) w (.inr ⟨_, _, rfl, (row_own (by repeat (first | exact .head _ | refine .tail _ ?_ | refine List.mem_append_right _ ?_)) w hw).left⟩) (.inr ⟨_, _, rfl, row_own (by repeat (first | exact .head _ | refine .tail _ ?_ | refine List.mem_append_right _ ?_)) w hw⟩))) rfl rfl ?_
            rintro _ _ ⟨rfl, rfl⟩
            refine l_l rfl rfl rfl ?_
            refine l_nil ?_
            refine c_seq ?_
            refine c_region ?_
            refine l_l rfl rfl rfl ?_
            refine l_l (idx_slice1 0 rfl rfl rfl rfl (by simp [tb])) rfl rfl ?_
            refine l_x (x_load rfl rfl (at_own (by repeat (first | exact .head _ | refine .tail _ ?_ | refine List.mem_append_right _ ?_)) (by rfl))) rfl rfl ?_
            rintro _ _ ⟨rfl, rfl⟩
            refine l_l rfl rfl rfl ?_
            refine l_l (idx_slice1 0 rfl rfl rfl rfl (by simp [tb])) rfl rfl ?_
            refine l_x (x_store 1 rfl rfl rfl rfl rfl rfl (by simp [tb])) rfl rfl ?_
            rintro _ _ ⟨rfl, rfl⟩
            simp only [List.cons_append, List.nil_append, List.set_cons_succ, List.set_cons_zero]
            refine l_nil ?_
            refine c_seq ?_
            refine c_region ?_
            refine l_l rfl rfl rfl ?_
            refine l_l rfl rfl rfl ?_
            refine l_x (x_call call_12 rfl (fun w hw => Before_fn bl _ ms hJ.rise (by have := hJ.len; have := cap_ok n; omega) x w (hJ.line.lineW hw (fun x hx => by simp only [List.mem_append, List.mem_cons]; simp only [hx, true_or, or_true])) (hJ.dat.datW hw (fun x hx => by simp only [List.mem_append, List.mem_cons]; simp only [hx, true_or, or_true])))) rfl rfl ?_
            rintro _ _ ⟨G97, ⟨v97, rfl, hV97⟩, rfl⟩
            obtain ⟨a97, c97, rfl, hc97, hB97⟩ := hV97.slice
            rw [hL3] at hV97 ⊢
            obtain ⟨b97, cc97, sp97, hv97, rfl, hz97, hcl97, hmx97⟩ := vec_some hV97 (by simp [tb])
            cases hv97
            refine l_l rfl rfl rfl ?_
            refine l_l rfl rfl rfl ?_
            refine l_l rfl rfl rfl ?_
            refine l_l rfl rfl rfl ?_
            refine l_l rfl rfl rfl ?_
            refine l_l rfl rfl rfl ?_
            refine l_l rfl rfl rfl ?_
            refine l_nil ?_
            refine c_seq ?_
            refine c_region ?_
            refine l_l rfl rfl rfl ?_
            refine l_sure true rfl rfl rfl (by simp) ?_
            refine l_l rfl rfl rfl ?_
            refine l_l rfl rfl rfl ?_
            refine l_as (v := (.int .u8 ((befM ms x).t % 256))) rfl rfl rfl (congrArg _ (byt_t _)) ?_
            refine l_l rfl rfl rfl ?_
            refine l_l (shr_pos rfl rfl (by decide)) rfl rfl ?_
            refine l_as (v := (.int .u8 ((befM ms x).t / 256 % 256))) rfl rfl rfl (congrArg _ (byt_t8 _ hT0)) ?_
            refine l_x (x_slc rfl rfl rfl rfl rfl rfl) rfl rfl ?_
            rintro _ _ ⟨b109, rfl, rfl⟩
            refine l_x (x_val call_13 rfl (fun w hw => same2_fn _ _ _ _ (tb (befM ms x).t) (tb (befM ms x).t) (by simp [tb]) w (.inr ⟨_, _, rfl, (row_own (by repeat (first | exact .head _ | refine .tail _ ?_ | refine List.mem_append_right _ ?_)) w hw).left⟩) (.inr ⟨_, _, rfl, row_own (by repeat (first | exact .head _ | refine .tail _ ?_ | refine List.mem_append_right _ ?_)) w hw⟩))) rfl rfl ?_
            rintro _ _ ⟨rfl, rfl⟩
            refine l_l rfl rfl rfl ?_
            refine l_l rfl rfl rfl ?_
            refine l_nil ?_
            refine c_ret ?_
            exact l_end0 (fun _ _ => rets_v rfl) ⟨rfl, (congrArg _ (by simp))⟩

end Go.Proofs.Ytkifhldkhemdlaa
