/- The contract of the law of places near those that have names. -/
import Derived.Test.YtmafgccagaihbaaAwake
import Derived.Test.YtmafgccagaihbaaNamesE
import Derived.Test.YtmafgccagaihbaaNear
import Derived.Test.YtmafgccagaihbaaCalls
namespace Go.Proofs.Ytmafgccagaihbaa
open Go Go.VV Go.Proofs
set_option linter.unusedSimpArgs false
set_option linter.unusedVariables false
set_option maxRecDepth 100000
theorem findp0_fn (k t : Int) (w : World) : Does Try.prog 19 [.pointer none, .int .i64 k, .int .u16 t] w [] (fun v H => H = [] ∧ v = .tuple #[.string (.mk #[]), .int .u16 0, .bool false]) := by
  refine does_of Try.func19 rfl rfl rfl (St.refl w) ?_
  refine c_seq ?_
  refine c_region ?_
  refine l_l rfl rfl rfl ?_
  refine l_l rfl rfl rfl ?_
  refine l_l rfl rfl rfl ?_
  refine l_nil ?_
  refine c_seq ?_
  refine c_seq ?_
  refine c_region ?_
  refine l_l rfl rfl rfl ?_
  refine l_l rfl rfl rfl ?_
  refine l_nil ?_
  refine c_true rfl ?_
  refine c_seq ?_
  refine c_region ?_
  refine l_l rfl rfl rfl ?_
  refine l_l rfl rfl rfl ?_
  refine l_l rfl rfl rfl ?_
  refine l_nil ?_
  refine c_ret ?_
  exact l_end0 (fun _ _ => rets_v3 rfl rfl rfl) ⟨rfl, rfl⟩

theorem nlen0_fn (w : World) : Does Try.prog 18 [.pointer none] w [] (fun v H => H = [] ∧ v = .int .i64 0) := by
  refine does_of Try.func18 rfl rfl rfl (St.refl w) ?_
  refine c_seq ?_
  refine c_region ?_
  refine l_l rfl rfl rfl ?_
  refine l_nil ?_
  refine c_seq ?_
  refine c_seq ?_
  refine c_region ?_
  refine l_l rfl rfl rfl ?_
  refine l_l rfl rfl rfl ?_
  refine l_nil ?_
  refine c_true rfl ?_
  refine c_seq ?_
  refine c_region ?_
  refine l_l rfl rfl rfl ?_
  refine l_nil ?_
  refine c_ret ?_
  exact l_end0 (fun _ _ => rets_v rfl) ⟨rfl, rfl⟩

theorem nadd00_fn (k t : Int) (s : ByteArray) (w : World) : Does Try.prog 16 [.pointer none, .int .i64 k, .int .u16 t, .string s] w [] (fun v H => H = [] ∧ v = .int .i64 1) := by
  refine does_of Try.func16 rfl rfl rfl (St.refl w) ?_
  refine c_seq ?_
  refine c_region ?_
  refine l_l rfl rfl rfl ?_
  refine l_nil ?_
  refine c_seq ?_
  refine c_seq ?_
  refine c_region ?_
  refine l_l rfl rfl rfl ?_
  refine l_l rfl rfl rfl ?_
  refine l_l rfl rfl rfl ?_
  refine l_p rfl rfl ?_
  refine l_p rfl rfl ?_
  refine l_p rfl rfl ?_
  refine l_l rfl rfl rfl ?_
  refine l_l rfl rfl rfl ?_
  refine l_p rfl rfl ?_
  refine l_p rfl rfl ?_
  refine l_p rfl rfl ?_
  refine l_l rfl rfl rfl ?_
  refine l_l rfl rfl rfl ?_
  refine l_p rfl rfl ?_
  refine l_p rfl rfl ?_
  refine l_l rfl rfl rfl ?_
  refine l_l rfl rfl rfl ?_
  refine l_p rfl rfl ?_
  refine l_p rfl rfl ?_
  refine l_l rfl rfl rfl ?_
  refine l_nil ?_
  refine c_true rfl ?_
  refine c_seq ?_
  refine c_region ?_
  refine l_l rfl rfl rfl ?_
  refine l_nil ?_
  refine c_ret ?_
  exact l_end0 (fun _ _ => rets_v rfl) ⟨rfl, rfl⟩

set_option maxHeartbeats 4000000 in
theorem near_fn (bank other by_ : Int) (hb : 0 ≤ bank ∧ bank < 256) (ho : 0 ≤ other ∧ other < 256) (hy0 : 0 ≤ by_ ∧ by_ < 256) (a : Option Addr) (c : Nat) (l : List Int) (hL : ∀ i, 0 ≤ l.getD i 0 ∧ l.getD i 0 < 65536) (w : World) (hE : Ns w .u16 a l) :
    Does Try.prog 7 [.int .u8 bank, .int .u8 other, .slice a l.length c, .int .u8 by_] w [] (fun v H => H = [] ∧ v = .bool true) := by
  refine does_of Try.func7 rfl rfl rfl (St.refl w) ?_
  refine c_seq ?_
  refine c_region ?_
  refine l_l rfl rfl rfl ?_
  refine l_nil ?_
  refine c_seq ?_
  refine c_seq ?_
  refine c_region ?_
  refine l_x (x_val call_9 rfl (fun w hw => awake_fn w)) rfl rfl ?_
  rintro _ _ ⟨rfl, rfl⟩
  refine l_sure false rfl rfl rfl rfl ?_
  refine l_l rfl rfl rfl ?_
  refine l_l rfl rfl rfl ?_
  refine l_l (by first | exact light_len rfl rfl | exact light_lens rfl rfl | rfl) rfl rfl ?_
  refine l_l rfl rfl rfl ?_
  refine l_l rfl rfl rfl ?_
  refine l_nil ?_
  refine c_cond rfl (fun h1 => ?_) (fun h1 => ?_)
  · refine c_seq ?_
    refine c_region ?_
    refine l_x (x_val call_9 rfl (fun w hw => awake_fn w)) rfl rfl ?_
    rintro _ _ ⟨rfl, rfl⟩
    refine l_l rfl rfl rfl ?_
    refine l_nil ?_
    refine c_ret ?_
    exact l_end0 (fun _ _ => rets_v rfl) ⟨rfl, rfl⟩
  · refine c_skip ?_
    refine c_seq ?_
    have hl60 : l.length ≤ 60 := by (try simp only [decide_eq_true_eq, decide_eq_false_iff_not, beq_iff_eq, beq_eq_false_iff_ne, bne_iff_ne, bne_eq_false_iff_eq, ne_eq] at *); omega
    refine c_region ?_
    refine l_l (light_struct rfl rfl rfl rfl) rfl rfl ?_
    refine l_x (x_box rfl rfl) rfl rfl ?_
    rintro _ _ ⟨b35, rfl, rfl⟩
    refine l_l rfl rfl rfl ?_
    refine l_nil ?_
    refine c_seq ?_
    refine c_region ?_
    refine l_l rfl rfl rfl ?_
    refine l_nil ?_
    refine c_seq ?_
    refine c_region ?_
    refine l_l rfl rfl rfl ?_
    refine l_x (x_val call_19 rfl (fun w hw => findp0_fn 0 0 w)) rfl rfl ?_
    rintro _ _ ⟨rfl, rfl⟩
    refine l_l rfl rfl rfl ?_
    refine l_l rfl rfl rfl ?_
    refine l_l rfl rfl rfl ?_
    refine l_l rfl rfl rfl ?_
    refine l_l rfl rfl rfl ?_
    refine l_l rfl rfl rfl ?_
    refine l_l rfl rfl rfl ?_
    refine l_nil ?_
    refine c_seq ?_
    refine c_seq ?_
    refine c_region ?_
    refine l_sure false rfl rfl rfl rfl ?_
    refine l_l rfl rfl rfl ?_
    refine l_l rfl rfl rfl ?_
    refine l_x (x_val call_18 rfl (fun w hw => nlen0_fn w)) rfl rfl ?_
    rintro _ _ ⟨rfl, rfl⟩
    refine l_sure false rfl rfl rfl rfl ?_
    refine l_l rfl rfl rfl ?_
    refine l_l rfl rfl rfl ?_
    refine l_l rfl rfl rfl ?_
    refine l_x (x_val call_16 rfl (fun w hw => nadd00_fn 0 0 _ w)) rfl rfl ?_
    rintro _ _ ⟨rfl, rfl⟩
    refine l_sure false rfl rfl rfl rfl ?_
    refine l_l rfl rfl rfl ?_
    refine l_nil ?_
    refine c_false rfl ?_
    refine c_skip ?_
    refine c_seq ?_
    refine c_seq ?_
    refine c_region ?_
    refine l_l rfl rfl rfl ?_
    refine l_l (by first | exact light_len rfl rfl | exact light_lens rfl rfl | rfl) rfl rfl ?_
    refine l_l rfl rfl rfl ?_
    refine l_nil ?_
    refine c_block ?_
    refine c_loop (σ := Nat × List Nm × Heap) [14, 55, 56, 57, 58, 59, 60, 61, 62, 63, 64, 65, 66, 67, 68, 69, 70, 71, 72] (fun s => [(55, .int .i64 s.1)]) (fun s => s.2.2 ++ []) (fun s => s.1 ≤ l.length ∧ Nr bank l s.2.1 s.1 ∧ NamH b35 s.2.1 s.2.2) (fun s => l.length - s.1) (0, [], [(b35, blk [.slice none 0 0] 48)]) ?_ ?_ ?_ ?_
    · exact ⟨Nat.zero_le _, .start _ _, .start _⟩
    · exact .cons rfl .nil
    · exact fun _ h => h
    · rintro ⟨i, P, G⟩ y9 ⟨hi, hN, hH⟩
      dsimp only at hi hN hH ⊢
      refine c_seq ?_
      refine c_region ?_
      refine l_l rfl rfl rfl ?_
      refine l_nil ?_
      refine c_seq ?_
      refine c_cond rfl (fun h2 => ?_) (fun h2 => ?_)
      · refine c_skip ?_
        refine c_seq ?_
        refine c_block ?_
        refine c_seq ?_
        refine c_region ?_
        refine l_l rfl rfl rfl ?_
        refine l_l rfl rfl rfl ?_
        refine l_nil ?_
        obtain ⟨bL, oL, rfl, hrL⟩ := hE.row (i := i) (by (try simp only [decide_eq_true_eq, decide_eq_false_iff_not, beq_iff_eq, beq_eq_false_iff_ne, bne_iff_ne, bne_eq_false_iff_eq, ne_eq] at *); omega)
        refine c_draw _ [7, 8, 9, 10, 11, 12] (.step true 0 (.step true 1 (.step true 2 (.step true 3 (.step true 4 (.step true 5 (.step true 6 (.step true 7 (.step true 8 (.step true 9 (.step true 10 (.step false 11 (.step false 12 (.step false 13 .done)))))))))))))) rfl (by kernel_rfl) (by kernel_rfl) (fun _ h => h) ?_
        refine d_light rfl rfl rfl rfl rfl ?_
        refine d_light rfl rfl rfl rfl rfl ?_
        refine d_as (v := (.int .i64 bank)) rfl rfl rfl rfl rfl (congrArg _ (wrap_i64 (by omega) (by omega))) ?_
        refine d_light rfl rfl rfl rfl rfl ?_
        refine d_light rfl rfl rfl rfl rfl ?_
        refine d_light rfl (idx_slice1 i rfl rfl rfl rfl (by (try simp only [decide_eq_true_eq, decide_eq_false_iff_not, beq_iff_eq, beq_eq_false_iff_ne, bne_iff_ne, bne_eq_false_iff_eq, ne_eq] at *); omega)) rfl rfl rfl ?_
        refine d_load rfl rfl rfl (fun w hw => (srow_old hrL (by simp) w hw).int (i := i) (by (try simp only [decide_eq_true_eq, decide_eq_false_iff_not, beq_iff_eq, beq_eq_false_iff_ne, bne_iff_ne, bne_eq_false_iff_eq, ne_eq] at *); omega)) rfl rfl ?_
        refine d_light rfl rfl rfl rfl rfl ?_
        refine d_as (v := (.int .i64 ((i % 26 : Nat) : Int))) rfl (rem_pos rfl rfl (by decide)) rfl rfl rfl (congrArg _ (by rw [Int.tmod_eq_emod_of_nonneg (by omega)]; simp)) ?_
        refine d_as (v := (.int .i64 (97 + ((i % 26 : Nat) : Int)))) rfl rfl rfl rfl rfl (congrArg _ (wrap_i64 (by omega) (by omega))) ?_
        refine d_as (v := (.int .u8 ((UInt8.ofNat (97 + i % 26)).toNat : Int))) rfl rfl rfl rfl rfl (congrArg _ (nm_byte i)) ?_
        refine d_x rfl (x_slc rfl rfl rfl rfl rfl rfl) rfl rfl (by intro _ _ _ hK x hx; obtain ⟨_, rfl, rfl⟩ := hK; repeat (first | exact hx | exact List.mem_append_left _ hx | refine List.mem_append_right _ ?_ | refine .tail _ ?_)) ?_
        rintro _ _ ⟨b69, rfl, rfl⟩
        refine d_x rfl (x_str (l := nmL i) rfl rfl rfl rfl (fun w hw => row_own (.head _) w hw)) rfl rfl (by intro _ _ _ hK x hx; obtain ⟨rfl, rfl⟩ := hK; repeat (first | exact hx | exact List.mem_append_left _ hx | refine List.mem_append_right _ ?_ | refine .tail _ ?_)) ?_
        rintro _ _ ⟨rfl, rfl⟩
        refine d_heap (H' := G ++ [(b69, _)]) (fun _ h => St.fl [[_], G, []] [1, 0] rfl h) ?_
        refine d_x rfl (x_callF (A := G) (G := [(b69, _)]) (G.map (·.1)) call_16 rfl (fun _ hb => mem_fst hb) (fun w hw => nadd_fn b35 P G hH hN.srt hN.ok (by have := hN.len; omega) bank (l.getD i 0) (bs (nmL i)) (hL i) w (St.lentV hw))) rfl rfl (by intro h; cases h) ?_
        rintro _ _ ⟨G', ⟨rfl, hH'⟩, rfl⟩
        have hN' := hN.step hb (hL i) (by (try simp only [decide_eq_true_eq, decide_eq_false_iff_not, beq_iff_eq, beq_eq_false_iff_ne, bne_iff_ne, bne_eq_false_iff_eq, ne_eq] at *); omega)
        refine d_nil ?_
        refine c_region ?_
        refine l_as (v := (.int .i64 ((i + 1 : Nat) : Int))) rfl rfl rfl (congrArg _ (succ_law (by omega))) ?_
        refine l_l rfl rfl rfl ?_
        refine l_nil ?_
        exact ⟨(i + 1, _, G'), ⟨by (try simp only [decide_eq_true_eq, decide_eq_false_iff_not, beq_iff_eq, beq_eq_false_iff_ne, bne_iff_ne, bne_eq_false_iff_eq, ne_eq] at *); omega, hN', hH'⟩, by (try simp only [decide_eq_true_eq, decide_eq_false_iff_not, beq_iff_eq, beq_eq_false_iff_ne, bne_iff_ne, bne_eq_false_iff_eq, ne_eq] at *); omega, .cons rfl .nil, (by repeat (first | exact Agree.refl _ _ | exact Agree.mix rfl | refine Agree.put rfl ?_ | refine Agree.keep rfl ?_)), fun _ h => h.sub ((List.Sublist.refl _).append (List.nil_sublist _))⟩
      · refine c_exit rfl ?_
        refine c_seq ?_
        refine c_seq ?_
        obtain rfl : l.length = i := by (try simp only [decide_eq_true_eq, decide_eq_false_iff_not, beq_iff_eq, beq_eq_false_iff_ne, bne_iff_ne, bne_eq_false_iff_eq, ne_eq] at *); omega
        refine c_region ?_
        refine l_l rfl rfl rfl ?_
        refine l_l (by first | exact light_len rfl rfl | exact light_lens rfl rfl | rfl) rfl rfl ?_
        refine l_l rfl rfl rfl ?_
        refine l_nil ?_
        refine c_block ?_
        refine c_loopk (σ := Nat) [8, 15, 16, 17, 18, 19, 20, 21, 22, 75, 76, 77, 78, 79, 80, 81, 82, 83, 84, 85, 86, 87, 88, 89, 90, 91, 92, 93, 94, 95, 96, 97, 98, 99, 100, 101, 102, 103, 104, 105, 106, 107, 108, 109, 110, 111, 112, 113, 114, 115, 116, 117, 118, 119, 120, 121, 122, 123, 124, 125, 126, 127, 128, 129, 130, 131, 132, 133, 134, 135, 136, 137, 138, 139, 140, 141, 142, 143, 144, 145, 146, 147, 148, 149, 150, 151, 152, 153, 154, 155, 156, 157, 158, 159, 160, 161, 162, 163, 164] (fun i => [(75, .int .i64 i)]) (fun i => i ≤ l.length) (fun i => l.length - i) 0 ?_ ?_ ?_
        · exact Nat.zero_le _
        · exact .cons rfl .nil
        · intro i y14 hi
          refine c_seq ?_
          refine c_region ?_
          refine l_l rfl rfl rfl ?_
          refine l_nil ?_
          refine c_seq ?_
          refine c_cond rfl (fun h3 => ?_) (fun h3 => ?_)
          · refine c_skip ?_
            refine c_seq ?_
            refine c_block ?_
            refine c_seq ?_
            refine c_region ?_
            refine l_l rfl rfl rfl ?_
            refine l_l rfl rfl rfl ?_
            refine l_nil ?_
            refine c_seq ?_
            obtain ⟨bL, oL, rfl, hrL⟩ := hE.row (i := i) (by (try simp only [decide_eq_true_eq, decide_eq_false_iff_not, beq_iff_eq, beq_eq_false_iff_ne, bne_iff_ne, bne_eq_false_iff_eq, ne_eq] at *); omega)
            have hLi := hL i
            refine c_region ?_
            refine l_l rfl rfl rfl ?_
            refine l_l rfl rfl rfl ?_
            refine l_as (v := (.int .i64 bank)) rfl rfl rfl (congrArg _ (wrap_i64 (by omega) (by omega))) ?_
            refine l_l rfl rfl rfl ?_
            refine l_l rfl rfl rfl ?_
            refine l_l (idx_slice1 i rfl rfl rfl rfl (by (try simp only [decide_eq_true_eq, decide_eq_false_iff_not, beq_iff_eq, beq_eq_false_iff_ne, bne_iff_ne, bne_eq_false_iff_eq, ne_eq] at *); omega)) rfl rfl ?_
            refine l_x (x_load rfl rfl (at_old (hrL.int (i := i) (by (try simp only [decide_eq_true_eq, decide_eq_false_iff_not, beq_iff_eq, beq_eq_false_iff_ne, bne_iff_ne, bne_eq_false_iff_eq, ne_eq] at *); omega)) (by simp))) rfl rfl ?_
            rintro _ _ ⟨rfl, rfl⟩
            refine l_x (x_val call_19 rfl (fun w hw => findp_fn b35 P hN.srt hN.ok (by have := hN.len; omega) bank (l.getD i 0) (hL i) w (hH.namW hw (fun x hx => by repeat (first | exact hx | exact List.mem_append_left _ hx | refine List.mem_append_right _ ?_ | refine .tail _ ?_))))) rfl rfl ?_
            rintro _ _ ⟨rfl, rfl⟩
            obtain ⟨y, hF, hyP, hya, hyn⟩ := hN.at (by omega) (by (try simp only [decide_eq_true_eq, decide_eq_false_iff_not, beq_iff_eq, beq_eq_false_iff_ne, bne_iff_ne, bne_eq_false_iff_eq, ne_eq] at *); omega : i < l.length) (hL i)
            rw [hF, show findV (some y) (l.getD i 0) = .tuple #[.string y.name, .int .u16 (l.getD i 0 - y.at_), .bool true] from rfl]
            refine l_l rfl rfl rfl ?_
            refine l_l rfl rfl rfl ?_
            refine l_l rfl rfl rfl ?_
            refine l_l rfl rfl rfl ?_
            refine l_l rfl rfl rfl ?_
            refine l_l rfl rfl rfl ?_
            refine l_l rfl rfl rfl ?_
            refine l_nil ?_
            refine c_seq ?_
            refine c_seq ?_
            refine c_region ?_
            refine l_l rfl rfl rfl ?_
            refine l_sure false rfl rfl rfl rfl ?_
            refine l_l rfl rfl rfl ?_
            refine l_l rfl rfl rfl ?_
            refine l_sure false rfl rfl rfl (by rw [hya]; simp) ?_
            refine l_l rfl rfl rfl ?_
            refine l_l rfl rfl rfl ?_
            refine l_l rfl rfl rfl ?_
            refine l_l (by first | exact light_len rfl rfl | exact light_lens rfl rfl | rfl) rfl rfl ?_
            refine l_sure false rfl rfl rfl (by rw [hyn]; rfl) ?_
            refine l_l rfl rfl rfl ?_
            refine l_nil ?_
            refine c_false rfl ?_
            refine c_skip ?_
            refine c_seq ?_
            have hi9 : i < l.length := by (try simp only [decide_eq_true_eq, decide_eq_false_iff_not, beq_iff_eq, beq_eq_false_iff_ne, bne_iff_ne, bne_eq_false_iff_eq, ne_eq] at *); omega
            refine c_region ?_
            refine l_l rfl rfl rfl ?_
            refine l_l rfl rfl rfl ?_
            refine l_l (idx_slice1 i rfl rfl rfl rfl (by (try simp only [decide_eq_true_eq, decide_eq_false_iff_not, beq_iff_eq, beq_eq_false_iff_ne, bne_iff_ne, bne_eq_false_iff_eq, ne_eq] at *); omega)) rfl rfl ?_
            refine l_x (x_load rfl rfl (at_old (hrL.int (i := i) (by (try simp only [decide_eq_true_eq, decide_eq_false_iff_not, beq_iff_eq, beq_eq_false_iff_ne, bne_iff_ne, bne_eq_false_iff_eq, ne_eq] at *); omega)) (by simp))) rfl rfl ?_
            rintro _ _ ⟨rfl, rfl⟩
            refine l_l rfl rfl rfl ?_
            refine l_nil ?_
            refine c_seq ?_
            refine c_region ?_
            refine l_l rfl rfl rfl ?_
            refine l_nil ?_
            refine c_seq ?_
            refine c_seq ?_
            refine c_region ?_
            refine l_l rfl rfl rfl ?_
            refine l_l (by first | exact light_len rfl rfl | exact light_lens rfl rfl | rfl) rfl rfl ?_
            refine l_l rfl rfl rfl ?_
            refine l_nil ?_
            refine c_block ?_
            refine c_loopk (σ := Nat × Bool) [20, 21, 107, 108, 109, 110, 111, 112, 113, 114, 115, 116, 117, 118, 119, 120, 121, 122, 123, 124, 125, 126, 127] (fun s => [(20, .bool s.2), (107, .int .i64 s.1)]) (fun s => s.1 ≤ l.length ∧ (s.2 = true → ∀ j, j < s.1 → ¬ (l.getD i 0 < l.getD j 0 ∧ l.getD j 0 - l.getD i 0 ≤ by_))) (fun s => l.length - s.1) (0, true) ?_ ?_ ?_
            · exact ⟨Nat.zero_le _, fun _ j hj => by omega⟩
            · exact .cons rfl (.cons rfl .nil)
            · rintro ⟨k, nx⟩ y22 ⟨hk, hno⟩
              dsimp only at hk hno ⊢
              refine c_seq ?_
              refine c_region ?_
              refine l_l rfl rfl rfl ?_
              refine l_nil ?_
              refine c_seq ?_
              refine c_cond rfl (fun h4 => ?_) (fun h4 => ?_)
              · refine c_skip ?_
                refine c_seq ?_
                refine c_block ?_
                refine c_seq ?_
                refine c_region ?_
                refine l_l rfl rfl rfl ?_
                refine l_l rfl rfl rfl ?_
                refine l_nil ?_
                refine c_seq ?_
                have hk9 : k < l.length := by (try simp only [decide_eq_true_eq, decide_eq_false_iff_not, beq_iff_eq, beq_eq_false_iff_ne, bne_iff_ne, bne_eq_false_iff_eq, ne_eq] at *); omega
                have hLk := hL k
                refine c_region ?_
                refine l_l rfl rfl rfl ?_
                refine l_l rfl rfl rfl ?_
                refine l_l (idx_slice1 k rfl rfl rfl rfl (by (try simp only [decide_eq_true_eq, decide_eq_false_iff_not, beq_iff_eq, beq_eq_false_iff_ne, bne_iff_ne, bne_eq_false_iff_eq, ne_eq] at *); omega)) rfl rfl ?_
                refine l_x (x_load rfl rfl (at_old (hrL.int (i := k) (by (try simp only [decide_eq_true_eq, decide_eq_false_iff_not, beq_iff_eq, beq_eq_false_iff_ne, bne_iff_ne, bne_eq_false_iff_eq, ne_eq] at *); omega)) (by simp))) rfl rfl ?_
                rintro _ _ ⟨rfl, rfl⟩
                refine l_l rfl rfl rfl ?_
                refine l_l rfl rfl rfl ?_
                refine l_b rfl rfl rfl (fun h5 => ?_) (fun h5 => ?_)
                · refine l_l rfl rfl rfl ?_
                  refine l_l rfl rfl rfl ?_
                  refine l_l (idx_slice1 k rfl rfl rfl rfl (by (try simp only [decide_eq_true_eq, decide_eq_false_iff_not, beq_iff_eq, beq_eq_false_iff_ne, bne_iff_ne, bne_eq_false_iff_eq, ne_eq] at *); omega)) rfl rfl ?_
                  refine l_x (x_load rfl rfl (at_old (hrL.int (i := k) (by (try simp only [decide_eq_true_eq, decide_eq_false_iff_not, beq_iff_eq, beq_eq_false_iff_ne, bne_iff_ne, bne_eq_false_iff_eq, ne_eq] at *); omega)) (by simp))) rfl rfl ?_
                  rintro _ _ ⟨rfl, rfl⟩
                  refine l_l rfl rfl rfl ?_
                  refine l_as (v := (.int .u16 (l.getD k 0 - l.getD i 0))) rfl rfl rfl (congrArg _ (wrap_u16_id (by (try simp only [decide_eq_true_eq, decide_eq_false_iff_not, beq_iff_eq, beq_eq_false_iff_ne, bne_iff_ne, bne_eq_false_iff_eq, ne_eq] at *); omega) (by (try simp only [decide_eq_true_eq, decide_eq_false_iff_not, beq_iff_eq, beq_eq_false_iff_ne, bne_iff_ne, bne_eq_false_iff_eq, ne_eq] at *); omega))) ?_
                  refine l_l rfl rfl rfl ?_
                  refine l_as (v := (.int .u16 by_)) rfl rfl rfl (congrArg _ (wrap_u16_id (by omega) (by omega))) ?_
                  refine l_l rfl rfl rfl ?_
                  refine l_l rfl rfl rfl ?_
                  refine l_nil ?_
                  refine c_cond rfl (fun h6 => ?_) (fun h6 => ?_)
                  · refine c_region ?_
                    refine l_l rfl rfl rfl ?_
                    refine l_nil ?_
                    refine c_region ?_
                    refine l_as (v := (.int .i64 ((k + 1 : Nat) : Int))) rfl rfl rfl (congrArg _ (succ_law (by omega))) ?_
                    refine l_l rfl rfl rfl ?_
                    refine l_nil ?_
                    exact ⟨(k + 1, false), ⟨by (try simp only [decide_eq_true_eq, decide_eq_false_iff_not, beq_iff_eq, beq_eq_false_iff_ne, bne_iff_ne, bne_eq_false_iff_eq, ne_eq] at *); omega, fun h => by cases h⟩, by (try simp only [decide_eq_true_eq, decide_eq_false_iff_not, beq_iff_eq, beq_eq_false_iff_ne, bne_iff_ne, bne_eq_false_iff_eq, ne_eq] at *); omega, .cons rfl (.cons rfl .nil), (by repeat (first | exact Agree.refl _ _ | exact Agree.mix rfl | refine Agree.put rfl ?_ | refine Agree.keep rfl ?_)), fun _ h => h⟩
                  · refine c_skip ?_
                    refine c_region ?_
                    refine l_as (v := (.int .i64 ((k + 1 : Nat) : Int))) rfl rfl rfl (congrArg _ (succ_law (by omega))) ?_
                    refine l_l rfl rfl rfl ?_
                    refine l_nil ?_
                    exact ⟨(k + 1, nx), ⟨by (try simp only [decide_eq_true_eq, decide_eq_false_iff_not, beq_iff_eq, beq_eq_false_iff_ne, bne_iff_ne, bne_eq_false_iff_eq, ne_eq] at *); omega, fun h j hj => by
                      rcases Nat.lt_or_ge j k with h9 | h9
                      · exact hno h j h9
                      · obtain rfl : j = k := by omega
                        (try simp only [decide_eq_true_eq, decide_eq_false_iff_not, beq_iff_eq, beq_eq_false_iff_ne, bne_iff_ne, bne_eq_false_iff_eq, ne_eq] at *); omega⟩, by (try simp only [decide_eq_true_eq, decide_eq_false_iff_not, beq_iff_eq, beq_eq_false_iff_ne, bne_iff_ne, bne_eq_false_iff_eq, ne_eq] at *); omega, .cons rfl (.cons rfl .nil), (by repeat (first | exact Agree.refl _ _ | exact Agree.mix rfl | refine Agree.put rfl ?_ | refine Agree.keep rfl ?_)), fun _ h => h⟩
                · refine l_p rfl rfl ?_
                  refine l_p rfl rfl ?_
                  refine l_p rfl rfl ?_
                  refine l_p rfl rfl ?_
                  refine l_p rfl rfl ?_
                  refine l_p rfl rfl ?_
                  refine l_p rfl rfl ?_
                  refine l_p rfl rfl ?_
                  refine l_p rfl rfl ?_
                  refine l_l rfl rfl rfl ?_
                  refine l_nil ?_
                  refine c_false rfl ?_
                  refine c_skip ?_
                  refine c_region ?_
                  refine l_as (v := (.int .i64 ((k + 1 : Nat) : Int))) rfl rfl rfl (congrArg _ (succ_law (by omega))) ?_
                  refine l_l rfl rfl rfl ?_
                  refine l_nil ?_
                  exact ⟨(k + 1, nx), ⟨by (try simp only [decide_eq_true_eq, decide_eq_false_iff_not, beq_iff_eq, beq_eq_false_iff_ne, bne_iff_ne, bne_eq_false_iff_eq, ne_eq] at *); omega, fun h j hj => by
                    rcases Nat.lt_or_ge j k with h9 | h9
                    · exact hno h j h9
                    · obtain rfl : j = k := by omega
                      (try simp only [decide_eq_true_eq, decide_eq_false_iff_not, beq_iff_eq, beq_eq_false_iff_ne, bne_iff_ne, bne_eq_false_iff_eq, ne_eq] at *); omega⟩, by (try simp only [decide_eq_true_eq, decide_eq_false_iff_not, beq_iff_eq, beq_eq_false_iff_ne, bne_iff_ne, bne_eq_false_iff_eq, ne_eq] at *); omega, .cons rfl (.cons rfl .nil), (by repeat (first | exact Agree.refl _ _ | exact Agree.mix rfl | refine Agree.put rfl ?_ | refine Agree.keep rfl ?_)), fun _ h => h⟩
              · refine c_exit rfl ?_
                refine c_seq ?_
                obtain rfl : l.length = k := by (try simp only [decide_eq_true_eq, decide_eq_false_iff_not, beq_iff_eq, beq_eq_false_iff_ne, bne_iff_ne, bne_eq_false_iff_eq, ne_eq] at *); omega
                have hways : (nx = true ∧ l.getD i 0 + by_ < 65536 ∧ findN P bank ((l.getD i 0 + by_) % 65536) = some y) ∨ (¬ (nx = true ∧ l.getD i 0 + by_ < 65536) ∧ findN P bank ((l.getD i 0 + by_) % 65536) = none) ∨ (¬ (nx = true ∧ l.getD i 0 + by_ < 65536) ∧ ∃ z, findN P bank ((l.getD i 0 + by_) % 65536) = some z) := by
                  by_cases hcase : nx = true ∧ l.getD i 0 + by_ < 65536
                  · exact .inl ⟨hcase.1, hcase.2, by rw [show (l.getD i 0 + by_) % 65536 = l.getD i 0 + by_ by omega]; exact hN.near (by omega) hLi.1 hyP hya hy0.1 hcase.2 (fun j hj => hno hcase.1 j hj)⟩
                  · cases hz : findN P bank ((l.getD i 0 + by_) % 65536) with
                    | none => exact .inr (.inl ⟨hcase, rfl⟩)
                    | some z => exact .inr (.inr ⟨hcase, z, rfl⟩)
                rcases hways with ⟨hnx, hq9, hF2⟩ | ⟨hmiss, hF2⟩ | ⟨hmiss, z, hF2⟩
                · refine c_region ?_
                  refine l_l rfl rfl rfl ?_
                  refine l_l rfl rfl rfl ?_
                  refine l_as (v := (.int .i64 bank)) rfl rfl rfl (congrArg _ (wrap_i64 (by omega) (by omega))) ?_
                  refine l_l rfl rfl rfl ?_
                  refine l_l rfl rfl rfl ?_
                  refine l_as (v := (.int .u16 by_)) rfl rfl rfl (congrArg _ (wrap_u16_id (by omega) (by omega))) ?_
                  refine l_as (v := (.int .u16 ((l.getD i 0 + by_) % 65536))) rfl rfl rfl (congrArg _ (wrap_u16 _)) ?_
                  refine l_x (x_val call_19 rfl (fun w hw => findp_fn b35 P hN.srt hN.ok (by have := hN.len; omega) bank _ ⟨by omega, by omega⟩ w (hH.namW hw (fun x hx => by repeat (first | exact hx | exact List.mem_append_left _ hx | refine List.mem_append_right _ ?_ | refine .tail _ ?_))))) rfl rfl ?_
                  rintro _ _ ⟨rfl, rfl⟩
                  rw [hF2, show findV (some y) ((l.getD i 0 + by_) % 65536) = .tuple #[.string y.name, .int .u16 ((l.getD i 0 + by_) % 65536 - y.at_), .bool true] from rfl]
                  refine l_l rfl rfl rfl ?_
                  refine l_l rfl rfl rfl ?_
                  refine l_l rfl rfl rfl ?_
                  refine l_l rfl rfl rfl ?_
                  refine l_l rfl rfl rfl ?_
                  refine l_l rfl rfl rfl ?_
                  refine l_l rfl rfl rfl ?_
                  refine l_nil ?_
                  refine c_seq ?_
                  refine c_region ?_
                  refine l_l rfl rfl rfl ?_
                  refine l_b rfl rfl rfl (fun h7 => ?_) (fun h7 => ?_)
                  · refine l_l rfl rfl rfl ?_
                    refine l_l rfl rfl rfl ?_
                    refine l_as (v := (.int .u16 by_)) rfl rfl rfl (congrArg _ (wrap_u16_id (by omega) (by omega))) ?_
                    refine l_as (v := (.int .u16 ((l.getD i 0 + by_) % 65536))) rfl rfl rfl (congrArg _ (wrap_u16 _)) ?_
                    refine l_l rfl rfl rfl ?_
                    refine l_sure true rfl rfl rfl (by (try simp only [decide_eq_true_eq, decide_eq_false_iff_not, beq_iff_eq, beq_eq_false_iff_ne, bne_iff_ne, bne_eq_false_iff_eq, ne_eq] at *); omega) ?_
                    refine l_l rfl rfl rfl ?_
                    refine l_l rfl rfl rfl ?_
                    refine l_l rfl rfl rfl ?_
                    refine l_sure false rfl rfl rfl rfl ?_
                    refine l_l rfl rfl rfl ?_
                    refine l_l rfl rfl rfl ?_
                    refine l_l rfl rfl rfl ?_
                    refine l_sure false (light_nestr rfl rfl) rfl rfl (by simp) ?_
                    refine l_l rfl rfl rfl ?_
                    refine l_l rfl rfl rfl ?_
                    refine l_l rfl rfl rfl ?_
                    refine l_l rfl rfl rfl ?_
                    refine l_as (v := (.int .u16 by_)) rfl rfl rfl (congrArg _ (wrap_u16_id (by omega) (by omega))) ?_
                    refine l_sure false rfl rfl rfl (by rw [hya]; (try simp only [decide_eq_true_eq, decide_eq_false_iff_not, beq_iff_eq, beq_eq_false_iff_ne, bne_iff_ne, bne_eq_false_iff_eq, ne_eq] at *); omega) ?_
                    refine l_l rfl rfl rfl ?_
                    refine l_l rfl rfl rfl ?_
                    refine l_nil ?_
                    refine c_false rfl ?_
                    refine c_skip ?_
                    refine c_region ?_
                    refine l_as (v := (.int .i64 ((i + 1 : Nat) : Int))) rfl rfl rfl (congrArg _ (succ_law (by omega))) ?_
                    refine l_l rfl rfl rfl ?_
                    refine l_nil ?_
                    exact ⟨i + 1, by (try simp only [decide_eq_true_eq, decide_eq_false_iff_not, beq_iff_eq, beq_eq_false_iff_ne, bne_iff_ne, bne_eq_false_iff_eq, ne_eq] at *); omega, by (try simp only [decide_eq_true_eq, decide_eq_false_iff_not, beq_iff_eq, beq_eq_false_iff_ne, bne_iff_ne, bne_eq_false_iff_eq, ne_eq] at *); omega, .cons rfl .nil, (by repeat (first | exact Agree.refl _ _ | exact Agree.mix rfl | refine Agree.put rfl ?_ | refine Agree.keep rfl ?_)), fun _ h => h⟩
                  · refine l_p rfl rfl ?_
                    refine l_p rfl rfl ?_
                    refine l_p rfl rfl ?_
                    refine l_p rfl rfl ?_
                    refine l_p rfl rfl ?_
                    refine l_p rfl rfl ?_
                    refine l_l rfl rfl rfl ?_
                    refine l_l rfl rfl rfl ?_
                    refine l_p rfl rfl ?_
                    refine l_p rfl rfl ?_
                    refine l_p rfl rfl ?_
                    refine l_p rfl rfl ?_
                    refine l_p rfl rfl ?_
                    refine l_p rfl rfl ?_
                    refine l_p rfl rfl ?_
                    refine l_p rfl rfl ?_
                    refine l_p rfl rfl ?_
                    refine l_p rfl rfl ?_
                    refine l_p rfl rfl ?_
                    refine l_p rfl rfl ?_
                    refine l_p rfl rfl ?_
                    refine l_l rfl rfl rfl ?_
                    refine l_nil ?_
                    refine c_false rfl ?_
                    refine c_skip ?_
                    refine c_region ?_
                    refine l_as (v := (.int .i64 ((i + 1 : Nat) : Int))) rfl rfl rfl (congrArg _ (succ_law (by omega))) ?_
                    refine l_l rfl rfl rfl ?_
                    refine l_nil ?_
                    exact ⟨i + 1, by (try simp only [decide_eq_true_eq, decide_eq_false_iff_not, beq_iff_eq, beq_eq_false_iff_ne, bne_iff_ne, bne_eq_false_iff_eq, ne_eq] at *); omega, by (try simp only [decide_eq_true_eq, decide_eq_false_iff_not, beq_iff_eq, beq_eq_false_iff_ne, bne_iff_ne, bne_eq_false_iff_eq, ne_eq] at *); omega, .cons rfl .nil, (by repeat (first | exact Agree.refl _ _ | exact Agree.mix rfl | refine Agree.put rfl ?_ | refine Agree.keep rfl ?_)), fun _ h => h⟩
                · refine c_region ?_
                  refine l_l rfl rfl rfl ?_
                  refine l_l rfl rfl rfl ?_
                  refine l_as (v := (.int .i64 bank)) rfl rfl rfl (congrArg _ (wrap_i64 (by omega) (by omega))) ?_
                  refine l_l rfl rfl rfl ?_
                  refine l_l rfl rfl rfl ?_
                  refine l_as (v := (.int .u16 by_)) rfl rfl rfl (congrArg _ (wrap_u16_id (by omega) (by omega))) ?_
                  refine l_as (v := (.int .u16 ((l.getD i 0 + by_) % 65536))) rfl rfl rfl (congrArg _ (wrap_u16 _)) ?_
                  refine l_x (x_val call_19 rfl (fun w hw => findp_fn b35 P hN.srt hN.ok (by have := hN.len; omega) bank _ ⟨by omega, by omega⟩ w (hH.namW hw (fun x hx => by repeat (first | exact hx | exact List.mem_append_left _ hx | refine List.mem_append_right _ ?_ | refine .tail _ ?_))))) rfl rfl ?_
                  rintro _ _ ⟨rfl, rfl⟩
                  rw [hF2, show findV none ((l.getD i 0 + by_) % 65536) = .tuple #[.string (.mk #[]), .int .u16 0, .bool false] from rfl]
                  refine l_l rfl rfl rfl ?_
                  refine l_l rfl rfl rfl ?_
                  refine l_l rfl rfl rfl ?_
                  refine l_l rfl rfl rfl ?_
                  refine l_l rfl rfl rfl ?_
                  refine l_l rfl rfl rfl ?_
                  refine l_l rfl rfl rfl ?_
                  refine l_nil ?_
                  refine c_seq ?_
                  refine c_region ?_
                  refine l_l rfl rfl rfl ?_
                  refine l_b rfl rfl rfl (fun h8 => ?_) (fun h8 => ?_)
                  · refine l_l rfl rfl rfl ?_
                    refine l_l rfl rfl rfl ?_
                    refine l_as (v := (.int .u16 by_)) rfl rfl rfl (congrArg _ (wrap_u16_id (by omega) (by omega))) ?_
                    refine l_as (v := (.int .u16 ((l.getD i 0 + by_) % 65536))) rfl rfl rfl (congrArg _ (wrap_u16 _)) ?_
                    refine l_l rfl rfl rfl ?_
                    refine l_sure false rfl rfl rfl (by have h9 : ¬ (l.getD i 0 + by_ < 65536) := fun h => hmiss ⟨by simpa using h8, h⟩; (try simp only [decide_eq_true_eq, decide_eq_false_iff_not, beq_iff_eq, beq_eq_false_iff_ne, bne_iff_ne, bne_eq_false_iff_eq, ne_eq] at *); omega) ?_
                    refine l_l rfl rfl rfl ?_
                    refine l_l rfl rfl rfl ?_
                    refine l_p rfl rfl ?_
                    refine l_p rfl rfl ?_
                    refine l_p rfl rfl ?_
                    refine l_p rfl rfl ?_
                    refine l_p rfl rfl ?_
                    refine l_p rfl rfl ?_
                    refine l_p rfl rfl ?_
                    refine l_p rfl rfl ?_
                    refine l_p rfl rfl ?_
                    refine l_p rfl rfl ?_
                    refine l_p rfl rfl ?_
                    refine l_p rfl rfl ?_
                    refine l_p rfl rfl ?_
                    refine l_l rfl rfl rfl ?_
                    refine l_nil ?_
                    refine c_false rfl ?_
                    refine c_skip ?_
                    refine c_region ?_
                    refine l_as (v := (.int .i64 ((i + 1 : Nat) : Int))) rfl rfl rfl (congrArg _ (succ_law (by omega))) ?_
                    refine l_l rfl rfl rfl ?_
                    refine l_nil ?_
                    exact ⟨i + 1, by (try simp only [decide_eq_true_eq, decide_eq_false_iff_not, beq_iff_eq, beq_eq_false_iff_ne, bne_iff_ne, bne_eq_false_iff_eq, ne_eq] at *); omega, by (try simp only [decide_eq_true_eq, decide_eq_false_iff_not, beq_iff_eq, beq_eq_false_iff_ne, bne_iff_ne, bne_eq_false_iff_eq, ne_eq] at *); omega, .cons rfl .nil, (by repeat (first | exact Agree.refl _ _ | exact Agree.mix rfl | refine Agree.put rfl ?_ | refine Agree.keep rfl ?_)), fun _ h => h⟩
                  · refine l_p rfl rfl ?_
                    refine l_p rfl rfl ?_
                    refine l_p rfl rfl ?_
                    refine l_p rfl rfl ?_
                    refine l_p rfl rfl ?_
                    refine l_p rfl rfl ?_
                    refine l_l rfl rfl rfl ?_
                    refine l_l rfl rfl rfl ?_
                    refine l_p rfl rfl ?_
                    refine l_p rfl rfl ?_
                    refine l_p rfl rfl ?_
                    refine l_p rfl rfl ?_
                    refine l_p rfl rfl ?_
                    refine l_p rfl rfl ?_
                    refine l_p rfl rfl ?_
                    refine l_p rfl rfl ?_
                    refine l_p rfl rfl ?_
                    refine l_p rfl rfl ?_
                    refine l_p rfl rfl ?_
                    refine l_p rfl rfl ?_
                    refine l_p rfl rfl ?_
                    refine l_l rfl rfl rfl ?_
                    refine l_nil ?_
                    refine c_false rfl ?_
                    refine c_skip ?_
                    refine c_region ?_
                    refine l_as (v := (.int .i64 ((i + 1 : Nat) : Int))) rfl rfl rfl (congrArg _ (succ_law (by omega))) ?_
                    refine l_l rfl rfl rfl ?_
                    refine l_nil ?_
                    exact ⟨i + 1, by (try simp only [decide_eq_true_eq, decide_eq_false_iff_not, beq_iff_eq, beq_eq_false_iff_ne, bne_iff_ne, bne_eq_false_iff_eq, ne_eq] at *); omega, by (try simp only [decide_eq_true_eq, decide_eq_false_iff_not, beq_iff_eq, beq_eq_false_iff_ne, bne_iff_ne, bne_eq_false_iff_eq, ne_eq] at *); omega, .cons rfl .nil, (by repeat (first | exact Agree.refl _ _ | exact Agree.mix rfl | refine Agree.put rfl ?_ | refine Agree.keep rfl ?_)), fun _ h => h⟩
                · refine c_region ?_
                  refine l_l rfl rfl rfl ?_
                  refine l_l rfl rfl rfl ?_
                  refine l_as (v := (.int .i64 bank)) rfl rfl rfl (congrArg _ (wrap_i64 (by omega) (by omega))) ?_
                  refine l_l rfl rfl rfl ?_
                  refine l_l rfl rfl rfl ?_
                  refine l_as (v := (.int .u16 by_)) rfl rfl rfl (congrArg _ (wrap_u16_id (by omega) (by omega))) ?_
                  refine l_as (v := (.int .u16 ((l.getD i 0 + by_) % 65536))) rfl rfl rfl (congrArg _ (wrap_u16 _)) ?_
                  refine l_x (x_val call_19 rfl (fun w hw => findp_fn b35 P hN.srt hN.ok (by have := hN.len; omega) bank _ ⟨by omega, by omega⟩ w (hH.namW hw (fun x hx => by repeat (first | exact hx | exact List.mem_append_left _ hx | refine List.mem_append_right _ ?_ | refine .tail _ ?_))))) rfl rfl ?_
                  rintro _ _ ⟨rfl, rfl⟩
                  rw [hF2, show findV (some z) ((l.getD i 0 + by_) % 65536) = .tuple #[.string z.name, .int .u16 ((l.getD i 0 + by_) % 65536 - z.at_), .bool true] from rfl]
                  refine l_l rfl rfl rfl ?_
                  refine l_l rfl rfl rfl ?_
                  refine l_l rfl rfl rfl ?_
                  refine l_l rfl rfl rfl ?_
                  refine l_l rfl rfl rfl ?_
                  refine l_l rfl rfl rfl ?_
                  refine l_l rfl rfl rfl ?_
                  refine l_nil ?_
                  refine c_seq ?_
                  refine c_region ?_
                  refine l_l rfl rfl rfl ?_
                  refine l_b rfl rfl rfl (fun h9 => ?_) (fun h9 => ?_)
                  · refine l_l rfl rfl rfl ?_
                    refine l_l rfl rfl rfl ?_
                    refine l_as (v := (.int .u16 by_)) rfl rfl rfl (congrArg _ (wrap_u16_id (by omega) (by omega))) ?_
                    refine l_as (v := (.int .u16 ((l.getD i 0 + by_) % 65536))) rfl rfl rfl (congrArg _ (wrap_u16 _)) ?_
                    refine l_l rfl rfl rfl ?_
                    refine l_sure false rfl rfl rfl (by have h9 : ¬ (l.getD i 0 + by_ < 65536) := fun h => hmiss ⟨by simpa using h9, h⟩; (try simp only [decide_eq_true_eq, decide_eq_false_iff_not, beq_iff_eq, beq_eq_false_iff_ne, bne_iff_ne, bne_eq_false_iff_eq, ne_eq] at *); omega) ?_
                    refine l_l rfl rfl rfl ?_
                    refine l_l rfl rfl rfl ?_
                    refine l_p rfl rfl ?_
                    refine l_p rfl rfl ?_
                    refine l_p rfl rfl ?_
                    refine l_p rfl rfl ?_
                    refine l_p rfl rfl ?_
                    refine l_p rfl rfl ?_
                    refine l_p rfl rfl ?_
                    refine l_p rfl rfl ?_
                    refine l_p rfl rfl ?_
                    refine l_p rfl rfl ?_
                    refine l_p rfl rfl ?_
                    refine l_p rfl rfl ?_
                    refine l_p rfl rfl ?_
                    refine l_l rfl rfl rfl ?_
                    refine l_nil ?_
                    refine c_false rfl ?_
                    refine c_skip ?_
                    refine c_region ?_
                    refine l_as (v := (.int .i64 ((i + 1 : Nat) : Int))) rfl rfl rfl (congrArg _ (succ_law (by omega))) ?_
                    refine l_l rfl rfl rfl ?_
                    refine l_nil ?_
                    exact ⟨i + 1, by (try simp only [decide_eq_true_eq, decide_eq_false_iff_not, beq_iff_eq, beq_eq_false_iff_ne, bne_iff_ne, bne_eq_false_iff_eq, ne_eq] at *); omega, by (try simp only [decide_eq_true_eq, decide_eq_false_iff_not, beq_iff_eq, beq_eq_false_iff_ne, bne_iff_ne, bne_eq_false_iff_eq, ne_eq] at *); omega, .cons rfl .nil, (by repeat (first | exact Agree.refl _ _ | exact Agree.mix rfl | refine Agree.put rfl ?_ | refine Agree.keep rfl ?_)), fun _ h => h⟩
                  · refine l_p rfl rfl ?_
                    refine l_p rfl rfl ?_
                    refine l_p rfl rfl ?_
                    refine l_p rfl rfl ?_
                    refine l_p rfl rfl ?_
                    refine l_p rfl rfl ?_
                    refine l_l rfl rfl rfl ?_
                    refine l_l rfl rfl rfl ?_
                    refine l_p rfl rfl ?_
                    refine l_p rfl rfl ?_
                    refine l_p rfl rfl ?_
                    refine l_p rfl rfl ?_
                    refine l_p rfl rfl ?_
                    refine l_p rfl rfl ?_
                    refine l_p rfl rfl ?_
                    refine l_p rfl rfl ?_
                    refine l_p rfl rfl ?_
                    refine l_p rfl rfl ?_
                    refine l_p rfl rfl ?_
                    refine l_p rfl rfl ?_
                    refine l_p rfl rfl ?_
                    refine l_l rfl rfl rfl ?_
                    refine l_nil ?_
                    refine c_false rfl ?_
                    refine c_skip ?_
                    refine c_region ?_
                    refine l_as (v := (.int .i64 ((i + 1 : Nat) : Int))) rfl rfl rfl (congrArg _ (succ_law (by omega))) ?_
                    refine l_l rfl rfl rfl ?_
                    refine l_nil ?_
                    exact ⟨i + 1, by (try simp only [decide_eq_true_eq, decide_eq_false_iff_not, beq_iff_eq, beq_eq_false_iff_ne, bne_iff_ne, bne_eq_false_iff_eq, ne_eq] at *); omega, by (try simp only [decide_eq_true_eq, decide_eq_false_iff_not, beq_iff_eq, beq_eq_false_iff_ne, bne_iff_ne, bne_eq_false_iff_eq, ne_eq] at *); omega, .cons rfl .nil, (by repeat (first | exact Agree.refl _ _ | exact Agree.mix rfl | refine Agree.put rfl ?_ | refine Agree.keep rfl ?_)), fun _ h => h⟩
          · refine c_exit rfl ?_
            refine c_seq ?_
            rcases hFo : findN P other 65535 with _ | z
            · refine c_region ?_
              refine l_l rfl rfl rfl ?_
              refine l_l rfl rfl rfl ?_
              refine l_as (v := (.int .i64 other)) rfl rfl rfl (congrArg _ (wrap_i64 (by omega) (by omega))) ?_
              refine l_x (x_val call_19 rfl (fun w hw => findp_fn b35 P hN.srt hN.ok (by have := hN.len; omega) other 65535 ⟨by decide, by decide⟩ w (hH.namW hw (fun x hx => by repeat (first | exact hx | exact List.mem_append_left _ hx | refine List.mem_append_right _ ?_ | refine .tail _ ?_))))) rfl rfl ?_
              rintro _ _ ⟨rfl, rfl⟩
              rw [hFo, show findV none 65535 = .tuple #[.string (.mk #[]), .int .u16 0, .bool false] from rfl]
              refine l_l rfl rfl rfl ?_
              refine l_l rfl rfl rfl ?_
              refine l_l rfl rfl rfl ?_
              refine l_l rfl rfl rfl ?_
              refine l_l rfl rfl rfl ?_
              refine l_l rfl rfl rfl ?_
              refine l_l rfl rfl rfl ?_
              refine l_nil ?_
              refine c_seq ?_
              refine c_region ?_
              refine l_l rfl rfl rfl ?_
              refine l_l rfl rfl rfl ?_
              refine l_l rfl rfl rfl ?_
              refine l_l rfl rfl rfl ?_
              refine l_b rfl rfl rfl (fun h10 => ?_) (fun h10 => ?_)
              · refine l_l rfl rfl rfl ?_
                refine l_l (by first | exact light_len rfl rfl | exact light_lens rfl rfl | rfl) rfl rfl ?_
                refine l_l rfl rfl rfl ?_
                refine l_l rfl rfl rfl ?_
                refine l_l (light_eqb rfl rfl rfl) rfl rfl ?_
                refine l_l rfl rfl rfl ?_
                refine l_nil ?_
                refine c_ret ?_
                exact l_end0 (fun _ _ => rets_v rfl) ⟨rfl, congrArg _ (by have h9 := hN.other_none (by omega) hFo; have h8 : other = bank := (by (try simp only [decide_eq_true_eq, decide_eq_false_iff_not, beq_iff_eq, beq_eq_false_iff_ne, bne_iff_ne, bne_eq_false_iff_eq, ne_eq] at *); omega); have h7 : l.length = 0 := Nat.eq_zero_of_not_pos (fun h => h9 ⟨h8, h⟩); rw [h7]; rfl)⟩
              · refine l_p rfl rfl ?_
                refine l_p rfl rfl ?_
                refine l_p rfl rfl ?_
                refine l_l rfl rfl rfl ?_
                refine l_l (light_eqb rfl rfl rfl) rfl rfl ?_
                refine l_l rfl rfl rfl ?_
                refine l_nil ?_
                refine c_ret ?_
                exact l_end0 (fun _ _ => rets_v rfl) ⟨rfl, rfl⟩
            · refine c_region ?_
              refine l_l rfl rfl rfl ?_
              refine l_l rfl rfl rfl ?_
              refine l_as (v := (.int .i64 other)) rfl rfl rfl (congrArg _ (wrap_i64 (by omega) (by omega))) ?_
              refine l_x (x_val call_19 rfl (fun w hw => findp_fn b35 P hN.srt hN.ok (by have := hN.len; omega) other 65535 ⟨by decide, by decide⟩ w (hH.namW hw (fun x hx => by repeat (first | exact hx | exact List.mem_append_left _ hx | refine List.mem_append_right _ ?_ | refine .tail _ ?_))))) rfl rfl ?_
              rintro _ _ ⟨rfl, rfl⟩
              rw [hFo, show findV (some z) 65535 = .tuple #[.string z.name, .int .u16 (65535 - z.at_), .bool true] from rfl]
              refine l_l rfl rfl rfl ?_
              refine l_l rfl rfl rfl ?_
              refine l_l rfl rfl rfl ?_
              refine l_l rfl rfl rfl ?_
              refine l_l rfl rfl rfl ?_
              refine l_l rfl rfl rfl ?_
              refine l_l rfl rfl rfl ?_
              refine l_nil ?_
              refine c_seq ?_
              refine c_region ?_
              refine l_l rfl rfl rfl ?_
              refine l_l rfl rfl rfl ?_
              refine l_l rfl rfl rfl ?_
              refine l_l rfl rfl rfl ?_
              refine l_b rfl rfl rfl (fun h11 => ?_) (fun h11 => ?_)
              · refine l_l rfl rfl rfl ?_
                refine l_l (by first | exact light_len rfl rfl | exact light_lens rfl rfl | rfl) rfl rfl ?_
                refine l_l rfl rfl rfl ?_
                refine l_l rfl rfl rfl ?_
                refine l_l (light_eqb rfl rfl rfl) rfl rfl ?_
                refine l_l rfl rfl rfl ?_
                refine l_nil ?_
                refine c_ret ?_
                exact l_end0 (fun _ _ => rets_v rfl) ⟨rfl, congrArg _ (by have h9 := (hN.other_some (by omega) hFo).2; simp; omega)⟩
              · refine l_p rfl rfl ?_
                refine l_p rfl rfl ?_
                refine l_p rfl rfl ?_
                refine l_l rfl rfl rfl ?_
                refine l_l (light_eqb rfl rfl rfl) rfl rfl ?_
                refine l_l rfl rfl rfl ?_
                refine l_nil ?_
                refine c_ret ?_
                exact absurd (hN.other_some (by omega) hFo).1 (by (try simp only [decide_eq_true_eq, decide_eq_false_iff_not, beq_iff_eq, beq_eq_false_iff_ne, bne_iff_ne, bne_eq_false_iff_eq, ne_eq] at *); omega)

end Go.Proofs.Ytmafgccagaihbaa
