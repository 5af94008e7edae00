/- What the law of the unit switched off does. -/
import Derived.Test.YtjceoaomkbabmaaMcF
import Derived.Test.YtjceoaomkbabmaaMcH
import Derived.Test.YtjceoaomkbabmaaMcI
import Derived.Test.YtjceoaomkbabmaaMcL
import Derived.Test.YtjceoaomkbabmaaMcM
import Derived.Test.YtjceoaomkbabmaaMcN
import Derived.Test.YtjceoaomkbabmaaMcR
import Derived.Test.YtjceoaomkbabmaaMcS
namespace Go.Proofs.Ytjceoaomkbabmaa
open Go Go.VV Go.Proofs
set_option linter.unusedSimpArgs false
set_option linter.unusedVariables false
set_option maxRecDepth 100000
set_option maxHeartbeats 4000000 in
theorem do_fn (b rb bv bs : Nat) (s : PU) (hok : s.Ok) (o : OpL) (w : World) (ho : o.Ok w) (haw : o.Away [b, rb, bv, bs]) (hst : St w [b, rb, bv, bs] (DH b rb bv bs s) w) :
    Does Try.prog 22 [.pointer (some ⟨b, 0, none⟩), .pointer (some ⟨rb, 0, none⟩), .agg (cO o).toArray] w [b, rb, bv, bs] (fun v H => v = .bool true ∧ H = DH b rb bv bs (doU s o)) := by
  have hmax := ho.max
  have hnr := ho.n
  have har := ho.addr
  have hml : maxLen = 9223372036854775807 := by decide
  refine does_of Try.func22 rfl rfl rfl hst ?_
  refine c_seq ?_
  refine c_region ?_
  refine l_x (x_box (l := cO o) rfl rfl) rfl rfl ?_
  rintro _ _ ⟨b5, rfl, rfl⟩
  refine l_heap (H' := [(b, blk (cU (s)) 60), (rb, blk (cW bv bs (s)) 48), (bv, blk ((s).V.map (.int .u8)) 5), (bs, blk ((s).O.map (.int .u8)) 5), (b5, blk (cO o) 42)]) (fun _ h => h.perm (List.perm_append_singleton _ (DH b rb bv bs s)).symm) ?_
  refine l_l rfl rfl rfl ?_
  refine l_nil ?_
  refine c_cut (σ := Unit) [6, 7, 8, 9, 10, 11, 12, 13, 14, 15, 16, 17, 18, 19, 20, 21, 22, 23, 24, 25, 26, 27, 28, 29, 30, 31, 32, 33, 34, 35, 36, 37, 38, 39, 40, 41, 42, 43, 44, 45, 46, 47, 48, 49, 50, 51, 52, 53, 54, 55, 56, 57, 58, 59, 60, 61, 62, 63, 64, 65, 66, 67, 68, 69, 70, 71, 72, 73, 74, 75, 76, 77, 78, 79, 80, 81, 82, 83, 84, 85, 86, 87, 88, 89, 90, 91, 92, 93, 94, 95, 96, 97, 98, 99, 100, 101, 102, 103, 104] (fun _ => []) (fun _ => [(b, blk (cU (doU s o)) 60), (rb, blk (cW bv bs (doU s o)) 48), (bv, blk ((doU s o).V.map (.int .u8)) 5), (bs, blk ((doU s o).O.map (.int .u8)) 5), (b5, blk (cO o) 42)]) (fun _ => True) ?_ ?_
  · refine c_seq ?_
    refine c_region ?_
    refine l_l (light_fa rfl rfl) rfl rfl ?_
    refine l_x (x_load rfl rfl (at_own (by repeat (first | exact .head _ | refine .tail _ ?_ | refine List.mem_append_right _ ?_)) (show (cO o)[0]? = some (.int .i64 o.kind) from rfl))) rfl rfl ?_
    rintro _ _ ⟨rfl, rfl⟩
    refine l_nil ?_
    refine c_block ?_
    refine c_seq ?_
    refine c_region ?_
    refine l_l rfl rfl rfl ?_
    refine l_l rfl rfl rfl ?_
    refine l_nil ?_
    refine c_cond rfl (fun h1 => ?_) (fun h1 => ?_)
    · have h1n := by first | exact of_decide_eq_true h1 | exact of_decide_eq_false h1 | exact eq_of_beq h1 | exact ne_of_beq_false h1 | exact bne_t h1 | exact bne_f h1 | exact h1
      refine c_seq ?_
      obtain ⟨N, hN⟩ : ∃ N : Nat, max 0 (min o.n 3000) = (N : Int) := ⟨(max 0 (min o.n 3000)).toNat, (Int.toNat_of_nonneg (by omega)).symm⟩
      have hN2 : N ≤ 3000 := by omega
      refine c_region ?_
      refine l_l (light_fa rfl rfl) rfl rfl ?_
      refine l_x (x_load rfl rfl (at_own (by repeat (first | exact .head _ | refine .tail _ ?_ | refine List.mem_append_right _ ?_)) (show (cO o)[1]? = some (.int .i64 o.n) from rfl))) rfl rfl ?_
      rintro _ _ ⟨rfl, rfl⟩
      refine l_l (light_min rfl rfl) rfl rfl ?_
      refine l_as (v := (.int .i64 (N : Int))) (light_max rfl rfl) rfl rfl (congrArg _ hN) ?_
      refine l_l rfl rfl rfl ?_
      refine l_nil ?_
      refine c_block ?_
      refine c_loop (σ := Nat) [6, 16, 17, 18, 19, 20, 21, 22, 23, 24, 25, 26, 27, 28, 29, 30] (fun i => [(16, .int .i64 i)]) (fun i => [(b, blk (cU (tickN i s)) 60), (rb, blk (cW bv bs (tickN i s)) 48), (bv, blk ((tickN i s).V.map (.int .u8)) 5), (bs, blk ((tickN i s).O.map (.int .u8)) 5), (b5, blk (cO o) 42)]) (fun i => i ≤ N) (fun i => N - i) 0 ?_ ?_ ?_ ?_
      · exact Nat.zero_le _
      · exact .cons rfl .nil
      · exact fun _ h => h
      · rintro i y4 hi
        refine c_seq ?_
        refine c_region ?_
        refine l_l rfl rfl rfl ?_
        refine l_nil ?_
        refine c_seq ?_
        refine c_cond rfl (fun h2 => ?_) (fun h2 => ?_)
        · have h2n := by first | exact of_decide_eq_true h2 | exact of_decide_eq_false h2 | exact eq_of_beq h2 | exact ne_of_beq_false h2 | exact bne_t h2 | exact bne_f h2 | exact h2
          refine c_skip ?_
          refine c_seq ?_
          refine c_block ?_
          refine c_seq ?_
          refine c_region ?_
          refine l_l rfl rfl rfl ?_
          refine l_x (x_callF (A := [(b, _)]) (G := [(rb, _), (bv, _), (bs, _), (b5, _)]) [b] call_13 rfl (by simp) (fun w hw => tick_fn b (tickN i s) (tickN_ok hok i) w (St.lentV hw))) rfl rfl ?_
          rintro _ _ ⟨_, ⟨rfl, rfl⟩, rfl⟩
          refine l_l rfl rfl rfl ?_
          refine l_x (x_callM (F := [(b, _)]) (A := [(rb, _), (bv, _), (bs, _)]) (G := [(b5, _)]) [rb, bv, bs] call_36 rfl (fun _ hb => mem_fst (G := [(rb, _), (bv, _), (bs, _)]) hb) (fun w hw => rtick_fn rb bv bs (tickN i s) (tickN_ok hok i) w (St.lentV hw))) rfl rfl ?_
          rintro _ _ ⟨_, ⟨rfl, rfl⟩, rfl⟩
          refine l_sure false rfl rfl rfl (by simp) ?_
          refine l_l rfl rfl rfl ?_
          refine l_l rfl rfl rfl ?_
          refine l_x (x_val call_16 rfl (fun w hw => mode_fn b (tickU (tickN i s)) (tickN_ok hok i).tick.wf w (row_own (by repeat (first | exact .head _ | refine .tail _ ?_ | refine List.mem_append_right _ ?_)) w hw))) rfl rfl ?_
          rintro _ _ ⟨rfl, rfl⟩
          refine l_l rfl rfl rfl ?_
          refine l_x (x_val call_37 rfl (fun w hw => rmode_fn rb bv bs (tickU (tickN i s)) (tickN_ok hok i).tick.wf w (RRow.of hw (by repeat (first | exact .head _ | refine .tail _ ?_ | refine List.mem_append_right _ ?_)) (by repeat (first | exact .head _ | refine .tail _ ?_ | refine List.mem_append_right _ ?_)) (by repeat (first | exact .head _ | refine .tail _ ?_ | refine List.mem_append_right _ ?_))))) rfl rfl ?_
          rintro _ _ ⟨rfl, rfl⟩
          refine l_sure false rfl rfl rfl (by simp) ?_
          refine l_l rfl rfl rfl ?_
          refine l_nil ?_
          refine c_false rfl ?_
          refine c_skip ?_
          refine c_region ?_
          refine l_as (v := (.int .i64 ((i + 1 : Nat) : Int))) rfl rfl rfl (congrArg _ (succ_law (by omega))) ?_
          refine l_l rfl rfl rfl ?_
          refine l_nil ?_
          exact ⟨i + 1, by omega, by omega, .cons rfl .nil, (by repeat (first | exact Agree.refl _ _ | exact Agree.mix rfl | refine Agree.put rfl ?_ | refine Agree.keep rfl ?_)), fun _ h => by rw [tickN_succ]; exact h⟩
        · have h2n := by first | exact of_decide_eq_true h2 | exact of_decide_eq_false h2 | exact eq_of_beq h2 | exact ne_of_beq_false h2 | exact bne_t h2 | exact bne_f h2 | exact h2
          refine c_exit rfl ?_
          obtain rfl : i = N := by omega
          have hs9 : doU s o = tickN i s := by rw [do_1 h1n, hN, Int.toNat_natCast]
          exact ⟨(), trivial, .nil, (by repeat (first | exact Agree.refl _ _ | exact Agree.mix rfl | refine Agree.put rfl ?_ | refine Agree.keep rfl ?_)), fun _ h => by rw [hs9]; exact h⟩
    · have h1n := by first | exact of_decide_eq_true h1 | exact of_decide_eq_false h1 | exact eq_of_beq h1 | exact ne_of_beq_false h1 | exact bne_t h1 | exact bne_f h1 | exact h1
      refine c_seq ?_
      refine c_region ?_
      refine l_l rfl rfl rfl ?_
      refine l_l rfl rfl rfl ?_
      refine l_nil ?_
      refine c_cond rfl (fun h3 => ?_) (fun h3 => ?_)
      · have h3n := by first | exact of_decide_eq_true h3 | exact of_decide_eq_false h3 | exact eq_of_beq h3 | exact ne_of_beq_false h3 | exact bne_t h3 | exact bne_f h3 | exact h3
        refine c_seq ?_
        refine c_draw [(b5, blk (cO o) 42)] [3, 4, 5, 6, 7, 8, 9, 10] (.step true 0 (.step true 1 (.step true 2 (.step true 3 (.step true 4 (.step true 6 (.step true 7 (.step true 8 (.step true 9 (.step true 10 (.step false 5 (.step false 11 (.step true 12 .done))))))))))))) rfl (by kernel_rfl) (by kernel_rfl) (fun x hx => by obtain rfl := List.mem_singleton.1 hx; exact .tail _ (.tail _ (.tail _ (.tail _ (.head _))))) ?_
        refine d_light rfl rfl rfl rfl rfl ?_
        refine d_light rfl (light_fa rfl rfl) rfl rfl rfl ?_
        refine d_load rfl rfl rfl (s_own (by repeat (first | exact .head _ | refine .tail _ ?_ | refine List.mem_append_right _ ?_)) (show (cO o)[2]? = some (.int .u16 o.addr) from rfl)) rfl rfl ?_
        refine d_light rfl (light_fa rfl rfl) rfl rfl rfl ?_
        refine d_load rfl rfl rfl (s_own (by repeat (first | exact .head _ | refine .tail _ ?_ | refine List.mem_append_right _ ?_)) (show (cO o)[3]? = some (.int .u8 o.x) from rfl)) rfl rfl ?_
        refine d_light rfl rfl rfl rfl rfl ?_
        refine d_light rfl (light_fa rfl rfl) rfl rfl rfl ?_
        refine d_load rfl rfl rfl (s_own (by repeat (first | exact .head _ | refine .tail _ ?_ | refine List.mem_append_right _ ?_)) (show (cO o)[2]? = some (.int .u16 o.addr) from rfl)) rfl rfl ?_
        refine d_light rfl (light_fa rfl rfl) rfl rfl rfl ?_
        refine d_load rfl rfl rfl (s_own (by repeat (first | exact .head _ | refine .tail _ ?_ | refine List.mem_append_right _ ?_)) (show (cO o)[3]? = some (.int .u8 o.x) from rfl)) rfl rfl ?_
        refine d_x rfl (x_callF (A := [(b, _)]) (G := [(rb, _), (bv, _), (bs, _), (b5, _)]) [b] call_12 rfl (by simp) (fun w hw => write_fn b s hok.wf w (St.lentV hw) o.addr o.x ho.addr ho.x)) rfl rfl (by intro _ _ _ hK x hx; obtain ⟨_, ⟨rfl, rfl⟩, rfl⟩ := hK; repeat (first | exact hx | exact List.mem_append_left _ hx | refine List.mem_append_right _ ?_ | refine .tail _ ?_)) ?_
        rintro _ _ ⟨_, ⟨rfl, rfl⟩, rfl⟩
        refine d_x rfl (x_callM (F := [(b, _)]) (A := [(rb, _), (bv, _), (bs, _)]) (G := [(b5, _)]) [rb, bv, bs] call_38 rfl (fun _ hb => mem_fst (G := [(rb, _), (bv, _), (bs, _)]) hb) (fun w hw => rwrite_fn rb bv bs s hok.wf w (St.lentV hw) o.addr o.x ho.addr ho.x)) rfl rfl (by intro h; cases h) ?_
        rintro _ _ ⟨_, ⟨rfl, rfl⟩, rfl⟩
        refine d_sure false rfl rfl rfl rfl (by simp) ?_
        refine d_nil ?_
        refine c_false rfl ?_
        refine c_skip ?_
        exact ⟨(), trivial, .nil, (by repeat (first | exact Agree.refl _ _ | exact Agree.mix rfl | refine Agree.put rfl ?_ | refine Agree.keep rfl ?_)), fun _ h => by rw [do_2 h3n]; exact h⟩
      · have h3n := by first | exact of_decide_eq_true h3 | exact of_decide_eq_false h3 | exact eq_of_beq h3 | exact ne_of_beq_false h3 | exact bne_t h3 | exact bne_f h3 | exact h3
        refine c_seq ?_
        refine c_region ?_
        refine l_l rfl rfl rfl ?_
        refine l_l rfl rfl rfl ?_
        refine l_nil ?_
        refine c_cond rfl (fun h4 => ?_) (fun h4 => ?_)
        · have h4n := by first | exact of_decide_eq_true h4 | exact of_decide_eq_false h4 | exact eq_of_beq h4 | exact ne_of_beq_false h4 | exact bne_t h4 | exact bne_f h4 | exact h4
          refine c_seq ?_
          refine c_region ?_
          refine l_l rfl rfl rfl ?_
          refine l_l (light_fa rfl rfl) rfl rfl ?_
          refine l_x (x_load rfl rfl (at_own (by repeat (first | exact .head _ | refine .tail _ ?_ | refine List.mem_append_right _ ?_)) (show (cO o)[1]? = some (.int .i64 o.n) from rfl))) rfl rfl ?_
          rintro _ _ ⟨rfl, rfl⟩
          refine l_l (light_fa rfl rfl) rfl rfl ?_
          refine l_x (x_load rfl rfl (at_own (by repeat (first | exact .head _ | refine .tail _ ?_ | refine List.mem_append_right _ ?_)) (show (cO o)[3]? = some (.int .u8 o.x) from rfl))) rfl rfl ?_
          rintro _ _ ⟨rfl, rfl⟩
          refine l_x (x_callF (A := [(b, _)]) (G := [(rb, _), (bv, _), (bs, _), (b5, _)]) [b] call_19 rfl (by simp) (fun w hw => sprite_fn b s hok.wf w (St.lentV hw) o.n o.x ho.x)) rfl rfl ?_
          rintro _ _ ⟨_, ⟨rfl, rfl⟩, rfl⟩
          refine l_nil ?_
          refine c_seq ?_
          refine c_region ?_
          refine l_l (light_fa rfl rfl) rfl rfl ?_
          refine l_x (x_load rfl rfl (at_own (by repeat (first | exact .head _ | refine .tail _ ?_ | refine List.mem_append_right _ ?_)) (show (cO o)[1]? = some (.int .i64 o.n) from rfl))) rfl rfl ?_
          rintro _ _ ⟨rfl, rfl⟩
          refine l_l rfl rfl rfl ?_
          refine l_b rfl rfl rfl (fun h5 => ?_) (fun h5 => ?_)
          · have h5n := by first | exact of_decide_eq_true h5 | exact of_decide_eq_false h5 | exact eq_of_beq h5 | exact ne_of_beq_false h5 | exact bne_t h5 | exact bne_f h5 | exact h5
            refine l_l (light_fa rfl rfl) rfl rfl ?_
            refine l_x (x_load rfl rfl (at_own (by repeat (first | exact .head _ | refine .tail _ ?_ | refine List.mem_append_right _ ?_)) (show (cO o)[1]? = some (.int .i64 o.n) from rfl))) rfl rfl ?_
            rintro _ _ ⟨rfl, rfl⟩
            refine l_l rfl rfl rfl ?_
            refine l_l rfl rfl rfl ?_
            refine l_nil ?_
            refine c_cond rfl (fun h6 => ?_) (fun h6 => ?_)
            · have h6n := by first | exact of_decide_eq_true h6 | exact of_decide_eq_false h6 | exact eq_of_beq h6 | exact ne_of_beq_false h6 | exact bne_t h6 | exact bne_f h6 | exact h6
              refine c_draw _ [4, 5, 6, 7] (.step true 0 (.step true 1 (.step true 2 (.step true 3 (.step true 4 (.step true 5 (.step true 6 (.step true 7 (.step true 8 (.step false 9 .done)))))))))) rfl (by kernel_rfl) (by kernel_rfl) (fun _ h => h) ?_
              refine d_light rfl rfl rfl rfl rfl ?_
              refine d_light rfl rfl rfl rfl rfl ?_
              refine d_light rfl (light_fa rfl rfl) rfl rfl rfl ?_
              refine d_load rfl rfl rfl (s_own (by repeat (first | exact .head _ | refine .tail _ ?_ | refine List.mem_append_right _ ?_)) (show (cW bv bs s)[1]? = some (.slice (some ⟨bs, 0, none⟩) s.O.length 160) from cW_O hok.wf)) rfl rfl ?_
              refine d_light rfl (light_fa rfl rfl) rfl rfl rfl ?_
              refine d_load rfl rfl rfl (s_own (by repeat (first | exact .head _ | refine .tail _ ?_ | refine List.mem_append_right _ ?_)) (show (cO o)[1]? = some (.int .i64 o.n) from rfl)) rfl rfl ?_
              refine d_light rfl (light_fa rfl rfl) rfl rfl rfl ?_
              refine d_load rfl rfl rfl (s_own (by repeat (first | exact .head _ | refine .tail _ ?_ | refine List.mem_append_right _ ?_)) (show (cO o)[3]? = some (.int .u8 o.x) from rfl)) rfl rfl ?_
              refine d_light rfl (idx_sliceI rfl rfl rfl (by omega) (by rw [hok.wf.lO]; omega)) rfl rfl rfl ?_
              refine d_x rfl (x_storeTo (l' := (s.O.set o.n.toNat o.x).map (.int .u8)) 3 rfl rfl rfl rfl rfl rfl (by rw [List.length_map, hok.wf.lO]; simp only [List.length_cons, List.length_nil]; omega) (by rw [Nat.zero_add]; exact putL_int .u8 (by rw [hok.wf.lO]; omega) o.x)) rfl rfl (by intro h; cases h) ?_
              rintro _ _ ⟨rfl, rfl⟩
              refine d_nil ?_
              have hs9 := (do_3 h4n (s := s)).trans (sprite_in o.x (by omega))
              exact ⟨(), trivial, .nil, (by repeat (first | exact Agree.refl _ _ | exact Agree.mix rfl | refine Agree.put rfl ?_ | refine Agree.keep rfl ?_)), fun _ h => by rw [sprite_in o.x (by omega)] at h; rw [hs9]; exact h⟩
            · have h6n := by first | exact of_decide_eq_true h6 | exact of_decide_eq_false h6 | exact eq_of_beq h6 | exact ne_of_beq_false h6 | exact bne_t h6 | exact bne_f h6 | exact h6
              refine c_skip ?_
              have hs9 := (do_3 h4n (s := s)).trans (sprite_out o.x (by omega))
              exact ⟨(), trivial, .nil, (by repeat (first | exact Agree.refl _ _ | exact Agree.mix rfl | refine Agree.put rfl ?_ | refine Agree.keep rfl ?_)), fun _ h => by rw [sprite_out o.x (by omega)] at h; rw [hs9]; exact h⟩
          · have h5n := by first | exact of_decide_eq_true h5 | exact of_decide_eq_false h5 | exact eq_of_beq h5 | exact ne_of_beq_false h5 | exact bne_t h5 | exact bne_f h5 | exact h5
            refine l_p rfl rfl ?_
            refine l_p rfl rfl ?_
            refine l_p rfl rfl ?_
            refine l_l rfl rfl rfl ?_
            refine l_nil ?_
            refine c_false rfl ?_
            refine c_skip ?_
            have hs9 := (do_3 h4n (s := s)).trans (sprite_out o.x (by omega))
            exact ⟨(), trivial, .nil, (by repeat (first | exact Agree.refl _ _ | exact Agree.mix rfl | refine Agree.put rfl ?_ | refine Agree.keep rfl ?_)), fun _ h => by rw [sprite_out o.x (by omega)] at h; rw [hs9]; exact h⟩
        · have h4n := by first | exact of_decide_eq_true h4 | exact of_decide_eq_false h4 | exact eq_of_beq h4 | exact ne_of_beq_false h4 | exact bne_t h4 | exact bne_f h4 | exact h4
          refine c_seq ?_
          refine c_region ?_
          refine l_l rfl rfl rfl ?_
          refine l_l rfl rfl rfl ?_
          refine l_nil ?_
          refine c_cond rfl (fun h7 => ?_) (fun h7 => ?_)
          · have h7n := by first | exact of_decide_eq_true h7 | exact of_decide_eq_false h7 | exact eq_of_beq h7 | exact ne_of_beq_false h7 | exact bne_t h7 | exact bne_f h7 | exact h7
            refine c_seq ?_
            refine c_region ?_
            refine l_l (light_fa rfl rfl) rfl rfl ?_
            refine l_x (x_load rfl rfl (at_own (by repeat (first | exact .head _ | refine .tail _ ?_ | refine List.mem_append_right _ ?_)) (show (cO o)[4]? = some (.slice o.ba o.B.length o.bc) from rfl))) rfl rfl ?_
            rintro _ _ ⟨rfl, rfl⟩
            refine l_l (light_len (a := o.ba) (c := o.bc) rfl rfl) rfl rfl ?_
            refine l_l rfl rfl rfl ?_
            refine l_nil ?_
            refine c_block ?_
            refine c_loop (σ := Nat) [6, 7, 76, 77, 78, 79, 80, 81, 82, 83, 84, 85, 86, 87, 88, 89, 90, 91, 92, 93, 94, 95, 96, 97, 98, 99, 100, 101, 102, 103, 104] (fun i => [(76, .int .i64 i)]) (fun i => [(b, blk (cU (wrN s o.addr o.B i)) 60), (rb, blk (cW bv bs (wrN s o.addr o.B i)) 48), (bv, blk ((wrN s o.addr o.B i).V.map (.int .u8)) 5), (bs, blk ((wrN s o.addr o.B i).O.map (.int .u8)) 5), (b5, blk (cO o) 42)]) (fun i => i ≤ o.B.length) (fun i => o.B.length - i) 0 ?_ ?_ ?_ ?_
            · exact Nat.zero_le _
            · exact .cons rfl .nil
            · exact fun _ h => h
            · rintro i y17 hi
              refine c_seq ?_
              refine c_region ?_
              refine l_l rfl rfl rfl ?_
              refine l_nil ?_
              refine c_seq ?_
              refine c_cond rfl (fun h8 => ?_) (fun h8 => ?_)
              · have h8n := by first | exact of_decide_eq_true h8 | exact of_decide_eq_false h8 | exact eq_of_beq h8 | exact ne_of_beq_false h8 | exact bne_t h8 | exact bne_f h8 | exact h8
                refine c_skip ?_
                refine c_seq ?_
                refine c_block ?_
                refine c_seq ?_
                refine c_region ?_
                refine l_l rfl rfl rfl ?_
                refine l_l rfl rfl rfl ?_
                refine l_nil ?_
                refine c_seq ?_
                obtain ⟨bb, off, hba, hrB⟩ := ho.ns.row (i := i) (by omega)
                have hne := haw.ne (by omega) _ hba
                refine c_drawF [(b5, blk (cO o) 42)] [3, 4, 6, 7, 8, 9, 10, 11, 12, 13, 14, 15, 16, 17, 18, 19, 20, 21, 22] [0, 0, 2, 0, 8, 30, 0, 64, 0, 448, 960, 2047, 0, 0, 8192, 0, 32768, 122880, 0, 262144, 0, 1835008, 3932160, 8388607, 16777215] (.step true 0 (.step true 1 (.step true 2 (.step true 3 (.step true 4 (.step true 5 (.step true 6 (.step true 7 (.step true 8 (.step true 9 (.step true 10 (.step true 12 (.step true 13 (.step true 14 (.step true 15 (.step true 16 (.step true 17 (.step true 18 (.step true 19 (.step true 20 (.step true 21 (.step true 22 (.step false 11 (.step false 23 (.step true 24 .done))))))))))))))))))))))))) rfl (by kernel_rfl) (by kernel_rfl) (by kernel_rfl) (fun x hx => by obtain rfl := List.mem_singleton.1 hx; exact .tail _ (.tail _ (.tail _ (.tail _ (.head _))))) ?_
                refine d_light rfl rfl rfl rfl rfl ?_
                refine d_light rfl (light_fa rfl rfl) rfl rfl rfl ?_
                refine d_load rfl rfl rfl (s_own (by repeat (first | exact .head _ | refine .tail _ ?_ | refine List.mem_append_right _ ?_)) (show (cO o)[2]? = some (.int .u16 o.addr) from rfl)) rfl rfl ?_
                refine d_light rfl rfl rfl rfl rfl ?_
                refine d_as (v := (.int .u16 ((i : Int) % 65536))) rfl rfl rfl rfl rfl (congrArg _ (wrap_u16 _)) ?_
                refine d_as (v := (.int .u16 ((o.addr + (i : Int)) % 65536))) rfl rfl rfl rfl rfl (congrArg _ ((wrap_u16 _).trans (by omega))) ?_
                refine d_light rfl (light_fa rfl rfl) rfl rfl rfl ?_
                refine d_load rfl rfl rfl (s_own (by repeat (first | exact .head _ | refine .tail _ ?_ | refine List.mem_append_right _ ?_)) (show (cO o)[4]? = some (.slice (some ⟨bb, off, none⟩) o.B.length o.bc) by rw [← hba]; rfl)) rfl rfl ?_
                refine d_light rfl rfl rfl rfl rfl ?_
                refine d_light rfl (idx_slice1 i rfl rfl rfl rfl (by omega)) rfl rfl rfl ?_
                refine d_load rfl rfl rfl (s_old (hrB.int (i := i) (by omega)) hne) rfl rfl ?_
                refine d_light rfl rfl rfl rfl rfl ?_
                refine d_light rfl (light_fa rfl rfl) rfl rfl rfl ?_
                refine d_load rfl rfl rfl (s_own (by repeat (first | exact .head _ | refine .tail _ ?_ | refine List.mem_append_right _ ?_)) (show (cO o)[2]? = some (.int .u16 o.addr) from rfl)) rfl rfl ?_
                refine d_light rfl rfl rfl rfl rfl ?_
                refine d_as (v := (.int .u16 ((i : Int) % 65536))) rfl rfl rfl rfl rfl (congrArg _ (wrap_u16 _)) ?_
                refine d_as (v := (.int .u16 ((o.addr + (i : Int)) % 65536))) rfl rfl rfl rfl rfl (congrArg _ ((wrap_u16 _).trans (by omega))) ?_
                refine d_light rfl (light_fa rfl rfl) rfl rfl rfl ?_
                refine d_load rfl rfl rfl (s_own (by repeat (first | exact .head _ | refine .tail _ ?_ | refine List.mem_append_right _ ?_)) (show (cO o)[4]? = some (.slice (some ⟨bb, off, none⟩) o.B.length o.bc) by rw [← hba]; rfl)) rfl rfl ?_
                refine d_light rfl rfl rfl rfl rfl ?_
                refine d_light rfl (idx_slice1 i rfl rfl rfl rfl (by omega)) rfl rfl rfl ?_
                refine d_load rfl rfl rfl (s_old (hrB.int (i := i) (by omega)) hne) rfl rfl ?_
                refine d_x rfl (x_callF (A := [(b, _)]) (G := [(rb, _), (bv, _), (bs, _), (b5, _)]) [b] call_12 rfl (by simp) (fun w hw => write_fn b (wrN s o.addr o.B i) (wrN_ok hok o.addr ho.by_ i).wf w (St.lentV hw) ((o.addr + (i : Int)) % 65536) (o.B.getD i 0) (by omega) (ho.by_.get i))) rfl rfl (by intro _ _ _ hK x hx; obtain ⟨_, ⟨rfl, rfl⟩, rfl⟩ := hK; repeat (first | exact hx | exact List.mem_append_left _ hx | refine List.mem_append_right _ ?_ | refine .tail _ ?_)) ?_
                rintro _ _ ⟨_, ⟨rfl, rfl⟩, rfl⟩
                refine d_x rfl (x_callM (F := [(b, _)]) (A := [(rb, _), (bv, _), (bs, _)]) (G := [(b5, _)]) [rb, bv, bs] call_38 rfl (fun _ hb => mem_fst (G := [(rb, _), (bv, _), (bs, _)]) hb) (fun w hw => rwrite_fn rb bv bs (wrN s o.addr o.B i) (wrN_ok hok o.addr ho.by_ i).wf w (St.lentV hw) ((o.addr + (i : Int)) % 65536) (o.B.getD i 0) (by omega) (ho.by_.get i))) rfl rfl (by intro h; cases h) ?_
                rintro _ _ ⟨_, ⟨rfl, rfl⟩, rfl⟩
                refine d_sure false rfl rfl rfl rfl (by simp) ?_
                refine d_nil ?_
                refine c_false rfl ?_
                refine c_skip ?_
                refine c_region ?_
                refine l_as (v := (.int .i64 ((i + 1 : Nat) : Int))) rfl rfl rfl (congrArg _ (succ_law (by omega))) ?_
                refine l_l rfl rfl rfl ?_
                refine l_nil ?_
                exact ⟨i + 1, by omega, by omega, .cons rfl .nil, (by repeat (first | exact Agree.refl _ _ | exact Agree.mix rfl | refine Agree.put rfl ?_ | refine Agree.keep rfl ?_)), fun _ h => by rw [wrN_succ]; exact h⟩
              · have h8n := by first | exact of_decide_eq_true h8 | exact of_decide_eq_false h8 | exact eq_of_beq h8 | exact ne_of_beq_false h8 | exact bne_t h8 | exact bne_f h8 | exact h8
                refine c_exit rfl ?_
                obtain rfl : i = o.B.length := by omega
                exact ⟨(), trivial, .nil, (by repeat (first | exact Agree.refl _ _ | exact Agree.mix rfl | refine Agree.put rfl ?_ | refine Agree.keep rfl ?_)), fun _ h => by rw [do_4 h7n]; exact h⟩
          · have h7n := by first | exact of_decide_eq_true h7 | exact of_decide_eq_false h7 | exact eq_of_beq h7 | exact ne_of_beq_false h7 | exact bne_t h7 | exact bne_f h7 | exact h7
            refine c_skip ?_
            exact ⟨(), trivial, .nil, (by repeat (first | exact Agree.refl _ _ | exact Agree.mix rfl | refine Agree.put rfl ?_ | refine Agree.keep rfl ?_)), fun _ h => by rw [do_no h1n h3n h4n h7n]; exact h⟩
  · rintro _ yc _
    refine c_seq ?_
    refine c_drawF _ [3, 4, 5, 6, 7, 13, 14, 15, 16, 17, 22, 24, 29, 38, 47] [0, 0, 2, 7, 0, 0, 32, 127, 255, 511, 1023, 1023, 3071, 8191, 1023, 1023, 33791, 131071, 262143, 524287, 1048575, 2097151, 4194303, 2097151, 16777215, 33554431, 67108863, 134217727, 268435455, 536870911, 268435455, 1342177279, 3489660927, 7784628223, 17179869183, 34359738367, 68719476735, 137438953471, 274877906943, 137438953471, 687194767359, 1786706395135, 3985729650687, 8796093022207, 17592186044415, 35184372088831, 70368744177663, 140737488355327, 70368744177663, 351843720888319, 914793674309631, 2040693581152255, 4503599627370495, 9007199254740991, 18014398509481983] (.step true 0 (.step true 1 (.step true 2 (.step true 4 (.step true 5 (.step true 6 (.step false 3 (.step false 7 (.step true 8 (.step true 9 (.step true 10 (.step true 11 (.step true 12 (.step true 14 (.step true 15 (.step true 16 (.step false 13 (.step false 17 (.step true 18 (.step true 19 (.step true 20 (.step true 21 (.step true 23 (.step false 22 (.step false 24 (.step true 25 (.step true 26 (.step true 27 (.step true 28 (.step true 30 (.step true 31 (.step true 32 (.step true 33 (.step false 29 (.step true 34 (.step true 35 (.step true 36 (.step true 37 (.step true 39 (.step true 40 (.step true 41 (.step true 42 (.step false 38 (.step true 43 (.step true 44 (.step true 45 (.step true 46 (.step true 48 (.step true 49 (.step true 50 (.step true 51 (.step false 47 (.step true 52 (.step true 53 (.step true 54 .done))))))))))))))))))))))))))))))))))))))))))))))))))))))) rfl (by kernel_rfl) (by kernel_rfl) (by kernel_rfl) (fun _ h => h) ?_
    refine d_light rfl rfl rfl rfl rfl ?_
    refine d_light rfl (light_fa rfl rfl) rfl rfl rfl ?_
    refine d_load rfl rfl rfl (s_own (by repeat (first | exact .head _ | refine .tail _ ?_ | refine List.mem_append_right _ ?_)) (show (cO o)[2]? = some (.int .u16 o.addr) from rfl)) rfl rfl ?_
    refine d_light rfl rfl rfl rfl rfl ?_
    refine d_light rfl (light_fa rfl rfl) rfl rfl rfl ?_
    refine d_load rfl rfl rfl (s_own (by repeat (first | exact .head _ | refine .tail _ ?_ | refine List.mem_append_right _ ?_)) (show (cO o)[2]? = some (.int .u16 o.addr) from rfl)) rfl rfl ?_
    refine d_x rfl (x_val call_17 rfl (fun w hw => read_fn b (doU s o) (doU_ok hok ho).wf w (row_own (by repeat (first | exact .head _ | refine .tail _ ?_ | refine List.mem_append_right _ ?_)) w hw) o.addr ho.addr)) rfl rfl (by intro _ _ _ hK x hx; obtain ⟨rfl, rfl⟩ := hK; repeat (first | exact hx | exact List.mem_append_left _ hx | refine List.mem_append_right _ ?_ | refine .tail _ ?_)) ?_
    rintro _ _ ⟨rfl, rfl⟩
    refine d_x rfl (x_val call_39 rfl (fun w hw => rread_fn rb bv bs (doU s o) (doU_ok hok ho).wf w (RRow.of hw (by repeat (first | exact .head _ | refine .tail _ ?_ | refine List.mem_append_right _ ?_)) (by repeat (first | exact .head _ | refine .tail _ ?_ | refine List.mem_append_right _ ?_)) (by repeat (first | exact .head _ | refine .tail _ ?_ | refine List.mem_append_right _ ?_))) o.addr ho.addr)) rfl rfl (by intro _ _ _ hK x hx; obtain ⟨rfl, rfl⟩ := hK; repeat (first | exact hx | exact List.mem_append_left _ hx | refine List.mem_append_right _ ?_ | refine .tail _ ?_)) ?_
    rintro _ _ ⟨rfl, rfl⟩
    refine d_sure true rfl rfl rfl rfl (beq_self_eq_true _) ?_
    refine d_light rfl rfl rfl rfl rfl ?_
    refine d_light rfl rfl rfl rfl rfl ?_
    refine d_light rfl (light_fa rfl rfl) rfl rfl rfl ?_
    refine d_load rfl rfl rfl (s_own (by repeat (first | exact .head _ | refine .tail _ ?_ | refine List.mem_append_right _ ?_)) (show (cO o)[2]? = some (.int .u16 o.addr) from rfl)) rfl rfl ?_
    refine d_light rfl rfl rfl rfl rfl ?_
    refine d_light rfl (light_fa rfl rfl) rfl rfl rfl ?_
    refine d_load rfl rfl rfl (s_own (by repeat (first | exact .head _ | refine .tail _ ?_ | refine List.mem_append_right _ ?_)) (show (cO o)[2]? = some (.int .u16 o.addr) from rfl)) rfl rfl ?_
    refine d_x rfl (x_val call_18 rfl (fun w hw => peek_fn b (doU s o) (doU_ok hok ho).wf w (row_own (by repeat (first | exact .head _ | refine .tail _ ?_ | refine List.mem_append_right _ ?_)) w hw) o.addr ho.addr)) rfl rfl (by intro _ _ _ hK x hx; obtain ⟨rfl, rfl⟩ := hK; repeat (first | exact hx | exact List.mem_append_left _ hx | refine List.mem_append_right _ ?_ | refine .tail _ ?_)) ?_
    rintro _ _ ⟨rfl, rfl⟩
    refine d_x rfl (x_val call_40 rfl (fun w hw => rpeek_fn rb bv bs (doU s o) (doU_ok hok ho).wf w (RRow.of hw (by repeat (first | exact .head _ | refine .tail _ ?_ | refine List.mem_append_right _ ?_)) (by repeat (first | exact .head _ | refine .tail _ ?_ | refine List.mem_append_right _ ?_)) (by repeat (first | exact .head _ | refine .tail _ ?_ | refine List.mem_append_right _ ?_))) o.addr ho.addr)) rfl rfl (by intro _ _ _ hK x hx; obtain ⟨rfl, rfl⟩ := hK; repeat (first | exact hx | exact List.mem_append_left _ hx | refine List.mem_append_right _ ?_ | refine .tail _ ?_)) ?_
    rintro _ _ ⟨rfl, rfl⟩
    refine d_sure true rfl rfl rfl rfl (beq_self_eq_true _) ?_
    refine d_light rfl rfl rfl rfl rfl ?_
    refine d_light rfl rfl rfl rfl rfl ?_
    refine d_light rfl rfl rfl rfl rfl ?_
    refine d_light rfl rfl rfl rfl rfl ?_
    refine d_x rfl (x_val call_17 rfl (fun w hw => read_fn b (doU s o) (doU_ok hok ho).wf w (row_own (by repeat (first | exact .head _ | refine .tail _ ?_ | refine List.mem_append_right _ ?_)) w hw) 65345 (by decide))) rfl rfl (by intro _ _ _ hK x hx; obtain ⟨rfl, rfl⟩ := hK; repeat (first | exact hx | exact List.mem_append_left _ hx | refine List.mem_append_right _ ?_ | refine .tail _ ?_)) ?_
    rintro _ _ ⟨rfl, rfl⟩
    refine d_x rfl (x_val call_39 rfl (fun w hw => rread_fn rb bv bs (doU s o) (doU_ok hok ho).wf w (RRow.of hw (by repeat (first | exact .head _ | refine .tail _ ?_ | refine List.mem_append_right _ ?_)) (by repeat (first | exact .head _ | refine .tail _ ?_ | refine List.mem_append_right _ ?_)) (by repeat (first | exact .head _ | refine .tail _ ?_ | refine List.mem_append_right _ ?_))) 65345 (by decide))) rfl rfl (by intro _ _ _ hK x hx; obtain ⟨rfl, rfl⟩ := hK; repeat (first | exact hx | exact List.mem_append_left _ hx | refine List.mem_append_right _ ?_ | refine .tail _ ?_)) ?_
    rintro _ _ ⟨rfl, rfl⟩
    refine d_sure true rfl rfl rfl rfl (beq_self_eq_true _) ?_
    refine d_light rfl rfl rfl rfl rfl ?_
    refine d_light rfl rfl rfl rfl rfl ?_
    refine d_light rfl rfl rfl rfl rfl ?_
    refine d_light rfl rfl rfl rfl rfl ?_
    refine d_light rfl rfl rfl rfl rfl ?_
    refine d_light rfl (light_fa rfl rfl) rfl rfl rfl ?_
    refine d_load rfl rfl rfl (s_own (by repeat (first | exact .head _ | refine .tail _ ?_ | refine List.mem_append_right _ ?_)) (show (cW bv bs (doU s o))[14]? = some (.int .i64 (doU s o).line) from cW_line (doU_ok hok ho).wf)) rfl rfl ?_
    refine d_x rfl (x_val call_14 rfl (fun w hw => line_fnU b (doU s o) (doU_ok hok ho).wf w (row_own (by repeat (first | exact .head _ | refine .tail _ ?_ | refine List.mem_append_right _ ?_)) w hw))) rfl rfl (by intro _ _ _ hK x hx; obtain ⟨rfl, rfl⟩ := hK; repeat (first | exact hx | exact List.mem_append_left _ hx | refine List.mem_append_right _ ?_ | refine .tail _ ?_)) ?_
    rintro _ _ ⟨rfl, rfl⟩
    refine d_sure true rfl rfl rfl rfl (beq_self_eq_true _) ?_
    refine d_light rfl rfl rfl rfl rfl ?_
    refine d_light rfl rfl rfl rfl rfl ?_
    refine d_light rfl rfl rfl rfl rfl ?_
    refine d_light rfl rfl rfl rfl rfl ?_
    refine d_light rfl rfl rfl rfl rfl ?_
    refine d_light rfl (light_fa rfl rfl) rfl rfl rfl ?_
    refine d_load rfl rfl rfl (s_own (by repeat (first | exact .head _ | refine .tail _ ?_ | refine List.mem_append_right _ ?_)) (show (cW bv bs (doU s o))[15]? = some (.int .i64 (doU s o).dot) from cW_dot (doU_ok hok ho).wf)) rfl rfl ?_
    refine d_x rfl (x_val call_15 rfl (fun w hw => dot_fnU b (doU s o) (doU_ok hok ho).wf w (row_own (by repeat (first | exact .head _ | refine .tail _ ?_ | refine List.mem_append_right _ ?_)) w hw))) rfl rfl (by intro _ _ _ hK x hx; obtain ⟨rfl, rfl⟩ := hK; repeat (first | exact hx | exact List.mem_append_left _ hx | refine List.mem_append_right _ ?_ | refine .tail _ ?_)) ?_
    rintro _ _ ⟨rfl, rfl⟩
    refine d_sure true rfl rfl rfl rfl (beq_self_eq_true _) ?_
    refine d_light rfl rfl rfl rfl rfl ?_
    refine d_light rfl rfl rfl rfl rfl ?_
    refine d_light rfl rfl rfl rfl rfl ?_
    refine d_light rfl rfl rfl rfl rfl ?_
    refine d_light rfl rfl rfl rfl rfl ?_
    refine d_light rfl (light_fa rfl rfl) rfl rfl rfl ?_
    refine d_load rfl rfl rfl (s_own (by repeat (first | exact .head _ | refine .tail _ ?_ | refine List.mem_append_right _ ?_)) (show (cW bv bs (doU s o))[17]? = some (.int .i64 (doU s o).frames) from cW_frames (doU_ok hok ho).wf)) rfl rfl ?_
    refine d_x rfl (x_val call_41 rfl (fun w hw => frames_fnU b (doU s o) (doU_ok hok ho).wf w (row_own (by repeat (first | exact .head _ | refine .tail _ ?_ | refine List.mem_append_right _ ?_)) w hw))) rfl rfl (by intro _ _ _ hK x hx; obtain ⟨rfl, rfl⟩ := hK; repeat (first | exact hx | exact List.mem_append_left _ hx | refine List.mem_append_right _ ?_ | refine .tail _ ?_)) ?_
    rintro _ _ ⟨rfl, rfl⟩
    refine d_sure true rfl rfl rfl rfl (beq_self_eq_true _) ?_
    refine d_light rfl rfl rfl rfl rfl ?_
    refine d_light rfl rfl rfl rfl rfl ?_
    refine d_nil ?_
    refine c_ret ?_
    exact l_end (fun _ _ => rets_v rfl) (List.sublist_append_left (DH b rb bv bs (doU s o)) [_]) ⟨rfl, rfl⟩

end Go.Proofs.Ytjceoaomkbabmaa
namespace Go.Proofs.Ytjceoaomkbabmaa
open Go Go.VV Go.Proofs
set_option linter.unusedSimpArgs false
set_option linter.unusedVariables false
set_option maxRecDepth 100000
theorem few_fn (w : World) (a : Option Addr) (c : Nat) (l : List OpL) (hp : ∀ o ∈ l, o.Ok w) (hl : l.length ≤ maxLen) (hE : Els w cO a l) : Does Try.prog 20 [.slice a l.length c] w [] (fun v H => H = [] ∧ ∃ f, v = .bool f) := by
  have hml : maxLen = 9223372036854775807 := by decide
  refine does_of Try.func20 rfl rfl rfl (St.refl w) ?_
  refine c_seq ?_
  refine c_region ?_
  refine l_l rfl rfl rfl ?_
  refine l_nil ?_
  refine c_seq ?_
  refine c_seq ?_
  refine c_region ?_
  refine l_l rfl rfl rfl ?_
  refine l_l (by first | exact light_len rfl rfl | exact light_lens rfl rfl | rfl) rfl rfl ?_
  refine l_l rfl rfl rfl ?_
  refine l_nil ?_
  refine c_block ?_
  refine c_loopk (σ := Nat) [2, 3, 6, 7, 8, 9, 10, 11, 12, 13, 14, 15, 16] (fun i => [(6, .int .i64 i)]) (fun i => i ≤ l.length) (fun i => l.length - i) 0 ?_ ?_ ?_
  · exact Nat.zero_le _
  · exact .cons rfl .nil
  · rintro i y2 hi
    refine c_seq ?_
    refine c_region ?_
    refine l_l rfl rfl rfl ?_
    refine l_nil ?_
    refine c_seq ?_
    refine c_cond rfl (fun h1 => ?_) (fun h1 => ?_)
    · have h1n := by first | exact of_decide_eq_true h1 | exact of_decide_eq_false h1 | exact eq_of_beq h1 | exact ne_of_beq_false h1 | exact bne_t h1 | exact bne_f h1 | exact h1
      refine c_skip ?_
      refine c_seq ?_
      refine c_block ?_
      refine c_seq ?_
      refine c_region ?_
      refine l_l rfl rfl rfl ?_
      refine l_l rfl rfl rfl ?_
      refine l_nil ?_
      refine c_seq ?_
      obtain ⟨o, hlo⟩ : ∃ o, l[i]? = some o := ⟨_, get_some (by omega)⟩
      obtain ⟨bb, off, rfl, hr⟩ := hE.row (i := i) (by omega)
      refine c_region ?_
      refine l_l rfl rfl rfl ?_
      refine l_l rfl rfl rfl ?_
      refine l_l (idx_slice (s := 5) i rfl rfl rfl rfl (by omega)) rfl rfl ?_
      refine l_l (light_fa rfl rfl) rfl rfl ?_
      refine l_x (x_load rfl rfl (at_old (hr.at cO_len hlo 4 rfl) (by simp))) rfl rfl ?_
      rintro _ _ ⟨rfl, rfl⟩
      refine l_l (light_len (a := o.ba) (c := o.bc) rfl rfl) rfl rfl ?_
      refine l_l rfl rfl rfl ?_
      refine l_nil ?_
      refine c_cond rfl (fun h2 => ?_) (fun h2 => ?_)
      · have h2n := by first | exact of_decide_eq_true h2 | exact of_decide_eq_false h2 | exact eq_of_beq h2 | exact ne_of_beq_false h2 | exact bne_t h2 | exact bne_f h2 | exact h2
        refine c_seq ?_
        refine c_region ?_
        refine l_l rfl rfl rfl ?_
        refine l_nil ?_
        refine c_ret ?_
        exact l_end0 (fun _ _ => rets_v rfl) ⟨rfl, _, rfl⟩
      · have h2n := by first | exact of_decide_eq_true h2 | exact of_decide_eq_false h2 | exact eq_of_beq h2 | exact ne_of_beq_false h2 | exact bne_t h2 | exact bne_f h2 | exact h2
        refine c_skip ?_
        refine c_region ?_
        refine l_as (v := (.int .i64 ((i + 1 : Nat) : Int))) rfl rfl rfl (congrArg _ (succ_law (by omega))) ?_
        refine l_l rfl rfl rfl ?_
        refine l_nil ?_
        exact ⟨i + 1, by omega, by omega, .cons rfl .nil, (by repeat (first | exact Agree.refl _ _ | exact Agree.mix rfl | refine Agree.put rfl ?_ | refine Agree.keep rfl ?_)), fun _ h => h⟩
    · have h1n := by first | exact of_decide_eq_true h1 | exact of_decide_eq_false h1 | exact eq_of_beq h1 | exact ne_of_beq_false h1 | exact bne_t h1 | exact bne_f h1 | exact h1
      refine c_exit rfl ?_
      refine c_seq ?_
      refine c_region ?_
      refine l_l rfl rfl rfl ?_
      refine l_l (by first | exact light_len rfl rfl | exact light_lens rfl rfl | rfl) rfl rfl ?_
      refine l_l rfl rfl rfl ?_
      refine l_l rfl rfl rfl ?_
      refine l_nil ?_
      refine c_ret ?_
      exact l_end0 (fun _ _ => rets_v rfl) ⟨rfl, _, rfl⟩

theorem same_fn (a1 a2 : Option Addr) (c1 c2 : Nat) (l : List Int) (hl : l.length ≤ 1000000) (w : World) (hA : Ns w .u8 a1 l) (hB : Ns w .u8 a2 l) :
    Does Try.prog 24 [.slice a1 l.length c1, .slice a2 l.length c2] w [] (fun v H => H = [] ∧ v = .bool true) := by
  refine does_of Try.func24 rfl rfl rfl (St.refl w) ?_
  refine c_seq ?_
  refine c_region ?_
  refine l_l rfl rfl rfl ?_
  refine l_nil ?_
  refine c_seq ?_
  refine c_seq ?_
  refine c_region ?_
  refine l_l rfl rfl rfl ?_
  refine l_l (by first | exact light_len rfl rfl | exact light_lens rfl rfl | rfl) rfl rfl ?_
  refine l_l rfl rfl rfl ?_
  refine l_l (by first | exact light_len rfl rfl | exact light_lens rfl rfl | rfl) rfl rfl ?_
  refine l_sure false rfl rfl rfl (by simp) ?_
  refine l_nil ?_
  refine c_false rfl ?_
  refine c_skip ?_
  refine c_seq ?_
  refine c_seq ?_
  refine c_region ?_
  refine l_l rfl rfl rfl ?_
  refine l_l (by first | exact light_len rfl rfl | exact light_lens rfl rfl | rfl) rfl rfl ?_
  refine l_l rfl rfl rfl ?_
  refine l_nil ?_
  refine c_block ?_
  refine c_loopk (σ := Nat) [4, 5, 13, 14, 15, 16, 17, 18, 19, 20, 21, 22, 23, 24, 25] (fun i => [(13, .int .i64 i)]) (fun i => i ≤ l.length) (fun i => l.length - i) 0 ?_ ?_ ?_
  · exact Nat.zero_le _
  · exact .cons rfl .nil
  · rintro i y2 hi
    refine c_seq ?_
    refine c_region ?_
    refine l_l rfl rfl rfl ?_
    refine l_nil ?_
    refine c_seq ?_
    refine c_cond rfl (fun h1 => ?_) (fun h1 => ?_)
    · have h1n := by first | exact of_decide_eq_true h1 | exact of_decide_eq_false h1 | exact eq_of_beq h1 | exact ne_of_beq_false h1 | exact bne_t h1 | exact bne_f h1 | exact h1
      refine c_skip ?_
      refine c_seq ?_
      refine c_block ?_
      refine c_seq ?_
      refine c_region ?_
      refine l_l rfl rfl rfl ?_
      refine l_l rfl rfl rfl ?_
      refine l_nil ?_
      refine c_seq ?_
      obtain ⟨b1, o1, rfl, r1⟩ := hA.row (i := i) (by omega)
      obtain ⟨b2, o2, rfl, r2⟩ := hB.row (i := i) (by omega)
      refine c_draw _ [4, 5, 6, 7] (.step true 0 (.step true 1 (.step true 2 (.step true 3 (.step true 4 (.step true 5 (.step true 6 (.step true 7 (.step true 8 .done))))))))) rfl (by kernel_rfl) (by kernel_rfl) (fun _ h => h) ?_
      refine d_light rfl rfl rfl rfl rfl ?_
      refine d_light rfl rfl rfl rfl rfl ?_
      refine d_light rfl (idx_slice1 i rfl rfl rfl rfl (by omega)) rfl rfl rfl ?_
      refine d_load rfl rfl rfl (s_old (r1.int (by omega)) (by simp)) rfl rfl ?_
      refine d_light rfl rfl rfl rfl rfl ?_
      refine d_light rfl rfl rfl rfl rfl ?_
      refine d_light rfl (idx_slice1 i rfl rfl rfl rfl (by omega)) rfl rfl rfl ?_
      refine d_load rfl rfl rfl (s_old (r2.int (by omega)) (by simp)) rfl rfl ?_
      refine d_sure false rfl rfl rfl rfl (by simp) ?_
      refine d_nil ?_
      refine c_false rfl ?_
      refine c_skip ?_
      refine c_region ?_
      refine l_as (v := (.int .i64 ((i + 1 : Nat) : Int))) rfl rfl rfl (congrArg _ (succ_law (by omega))) ?_
      refine l_l rfl rfl rfl ?_
      refine l_nil ?_
      exact ⟨i + 1, by omega, by omega, .cons rfl .nil, (by repeat (first | exact Agree.refl _ _ | exact Agree.mix rfl | refine Agree.put rfl ?_ | refine Agree.keep rfl ?_)), fun _ h => h⟩
    · have h1n := by first | exact of_decide_eq_true h1 | exact of_decide_eq_false h1 | exact eq_of_beq h1 | exact ne_of_beq_false h1 | exact bne_t h1 | exact bne_f h1 | exact h1
      refine c_exit rfl ?_
      refine c_seq ?_
      refine c_region ?_
      refine l_l rfl rfl rfl ?_
      refine l_nil ?_
      refine c_ret ?_
      exact l_end0 (fun _ _ => rets_v rfl) ⟨rfl, rfl⟩

theorem play_fn (w : World) (a : Option Addr) (c : Nat) (l : List OpL) (hp : ∀ o ∈ l, o.Ok w) (hl : l.length ≤ maxLen) (hE : Els w cO a l) : Does Try.prog 28 [.slice a l.length c] w [] (fun v H => ∃ b, v = .pointer (some ⟨b, 0, none⟩) ∧ H = [(b, blk (cU (runU zeroU l)) 60)]) := by
  have hml : maxLen = 9223372036854775807 := by decide
  refine does_of Try.func28 rfl rfl rfl (St.refl w) ?_
  refine c_seq ?_
  refine c_region ?_
  refine l_l rfl rfl rfl ?_
  refine l_nil ?_
  refine c_seq ?_
  refine c_region ?_
  refine l_x (x_call call_11 rfl (fun w hw => new_fn w)) rfl rfl ?_
  rintro _ _ ⟨G6, ⟨b, rfl, rfl⟩, rfl⟩
  refine l_x (x_call call_21 rfl (fun w hw => rnew_fn w)) rfl rfl ?_
  rintro _ _ ⟨G7, ⟨rb, bv, bs, rfl, rfl⟩, rfl⟩
  refine l_l rfl rfl rfl ?_
  refine l_l rfl rfl rfl ?_
  refine l_nil ?_
  refine c_seq ?_
  refine c_seq ?_
  refine c_region ?_
  refine l_l rfl rfl rfl ?_
  refine l_l (by first | exact light_len rfl rfl | exact light_lens rfl rfl | rfl) rfl rfl ?_
  refine l_l rfl rfl rfl ?_
  refine l_nil ?_
  refine c_block ?_
  refine c_loop (σ := Nat) [5, 10, 11, 12, 13, 14, 15, 16, 17, 18, 19, 20] (fun i => [(10, .int .i64 i)]) (fun i => DH b rb bv bs (runU zeroU (l.take i))) (fun i => i ≤ l.length) (fun i => l.length - i) 0 ?_ ?_ ?_ ?_
  · exact Nat.zero_le _
  · exact .cons rfl .nil
  · exact fun _ h => St.fl [[_, _, _], [_]] [1, 0] rfl h
  · rintro i y hi
    refine c_seq ?_
    refine c_region ?_
    refine l_l rfl rfl rfl ?_
    refine l_nil ?_
    refine c_seq ?_
    refine c_cond rfl (fun h1 => ?_) (fun h1 => ?_)
    · have h1n := by first | exact of_decide_eq_true h1 | exact of_decide_eq_false h1 | exact eq_of_beq h1 | exact ne_of_beq_false h1 | exact bne_t h1 | exact bne_f h1 | exact h1
      refine c_skip ?_
      refine c_seq ?_
      refine c_block ?_
      refine c_seq ?_
      refine c_region ?_
      refine l_l rfl rfl rfl ?_
      refine l_l rfl rfl rfl ?_
      refine l_nil ?_
      obtain ⟨o, hlo⟩ : ∃ o, l[i]? = some o := ⟨_, get_some (by omega)⟩
      obtain ⟨bb, off, rfl, hr⟩ := hE.row (i := i) (by omega)
      refine c_region ?_
      refine l_l rfl rfl rfl ?_
      refine l_l rfl rfl rfl ?_
      refine l_l rfl rfl rfl ?_
      refine l_l rfl rfl rfl ?_
      refine l_l (idx_slice (s := 5) i rfl rfl rfl rfl (by omega)) rfl rfl ?_
      refine l_x (x_loadA rfl rfl rfl (row_old (hr.nth' cO_len hlo) (by simp))) rfl rfl ?_
      rintro _ _ ⟨rfl, rfl⟩
      refine l_x (x_callA call_22 rfl (fun w9 hw9 => do_fn b rb bv bs (runU zeroU (l.take i)) (runU_okt zeroU_ok hp i) o w9 (OpL.Ok.later (hp _ (List.mem_of_getElem? hlo)) hw9) (OpL.Ok.away (hp _ (List.mem_of_getElem? hlo)) hw9 (fun _ hb => mem_fst (G := DH b rb bv bs (runU zeroU (l.take i))) hb)) (St.lentA hw9))) rfl rfl ?_
      rintro _ _ ⟨rfl, rfl⟩
      refine l_nil ?_
      refine c_region ?_
      refine l_as (v := (.int .i64 ((i + 1 : Nat) : Int))) rfl rfl rfl (congrArg _ (succ_law (by omega))) ?_
      refine l_l rfl rfl rfl ?_
      refine l_nil ?_
      exact ⟨i + 1, by omega, by omega, .cons rfl .nil, (by repeat (first | exact Agree.refl _ _ | exact Agree.mix rfl | refine Agree.put rfl ?_ | refine Agree.keep rfl ?_)), fun _ h => by rw [runU_snoc _ hlo]; exact h⟩
    · have h1n := by first | exact of_decide_eq_true h1 | exact of_decide_eq_false h1 | exact eq_of_beq h1 | exact ne_of_beq_false h1 | exact bne_t h1 | exact bne_f h1 | exact h1
      refine c_exit rfl ?_
      refine c_seq ?_
      obtain rfl : i = l.length := by omega
      rw [List.take_length]
      refine c_region ?_
      refine l_l rfl rfl rfl ?_
      refine l_l rfl rfl rfl ?_
      refine l_nil ?_
      refine c_ret ?_
      exact l_end (fun _ _ => rets_v rfl) (.cons_cons _ (List.nil_sublist _)) ⟨b, rfl, rfl⟩

end Go.Proofs.Ytjceoaomkbabmaa
namespace Go.Proofs.Ytjceoaomkbabmaa
open Go Go.VV

structure PU.Good (u : PU) : Prop where
  ok : u.Ok
  own : u.own ≤ u.line + (if 63 ≤ u.dot then 1 else 0)
  r4 : u.R.getD 4 0 = 0
  r6 : u.R.getD 6 0 = 0
  pic : ∀ x ∈ u.P, x ≤ 3
  off : litU u = false → u.line = 0 ∧ u.dot = 0
theorem zeroU_good : zeroU.Good := ⟨zeroU_ok, by decide, rfl, rfl, fun x hx => by rw [(List.mem_replicate.1 hx).2]; decide, fun _ => ⟨rfl, rfl⟩⟩
section
variable {u : PU}
theorem PU.Good.own_lt (h : u.Good) : u.own < 256 := by
  have h1 := h.own; have h2 := h.ok.line
  split at h1 <;> omega
theorem rowU_four (u : PU) : ∀ x ∈ rowU u, x ≤ 3 := fun x hx => by
  obtain ⟨k, _, rfl⟩ := List.mem_map.1 hx
  have := seenS_four u.V (u.r 0) (u.r 7) (u.r 8) (u.r 9) k u.line ((belowU u).getD k 0) ((isort (shownS u.O (u.r 0) u.line)).find? (hit u.V (u.r 0) k u.line))
  unfold lineS; omega
theorem putI_mem {l r : List Int} {j : Nat} {x : Int} (h : x ∈ putI l j r) : x ∈ l ∨ x ∈ r := by
  unfold putI at h
  rcases List.mem_append.1 h with h | h
  · rcases List.mem_append.1 h with h | h
    · exact .inl (List.mem_of_mem_take h)
    · exact .inr h
  · exact .inl (List.mem_of_mem_drop h)
theorem PU.Good.ask (h : u.Good) : (askU u).Good := ⟨h.ok.ask, h.own, h.r4, h.r6, h.pic, h.off⟩
theorem PU.Good.tick (h : u.Good) : (tickU u).Good := by
  have hk := h.ok.tick
  by_cases hl : litU u = true
  · have ht : tickU u = askU (stepU u) := by unfold tickU; rw [if_pos hl]
    refine ⟨hk, ?_, ?_, ?_, ?_, fun hf => ?_⟩
    · rw [ht]
      show (stepU u).own ≤ (stepU u).line + (if 63 ≤ (stepU u).dot then 1 else 0)
      have ho := h.own; have hd := h.ok.dot; have hn := h.ok.line; have hd0 := h.ok.wf.dot; have hl0 := h.ok.wf.line
      by_cases h1 : u.dot = 62 ∧ u.line < 144
      · rw [step_paint h1.1 h1.2]
        simp only [paintU, oneU]
        split at ho <;> (try split) <;> (try split) <;> omega
      · by_cases h2 : u.dot = 113
        · rw [step_next h2]
          unfold nextU oneU
          dsimp only
          by_cases h3 : u.line = 143
          · rw [if_pos h3]; dsimp only; split at ho <;> (try split) <;> omega
          · rw [if_neg h3]
            by_cases h4 : u.line = 153
            · rw [if_pos h4]; dsimp only; (try split) <;> omega
            · rw [if_neg h4]; dsimp only; split at ho <;> (try split) <;> omega
        · rw [step_one h1 h2]
          simp only [oneU]
          split at ho <;> (try split) <;> omega
    · rw [(tick_keep u).2.2]; exact h.r4
    · rw [(tick_keep u).2.2]; exact h.r6
    · rw [ht]
      show ∀ x ∈ (stepU u).P, x ≤ 3
      intro x hx
      unfold stepU paintU nextU oneU at hx
      split at hx
      · rcases putI_mem hx with hx | hx
        · exact h.pic x hx
        · exact rowU_four _ x hx
      · repeat' split at hx
        all_goals exact h.pic x hx
    · have : litU (tickU u) = litU u := by unfold litU PU.r; rw [(tick_keep u).2.2]
      rw [this, hl] at hf; cases hf
  · have ht : tickU u = u := by unfold tickU; rw [if_neg hl]
    rw [ht]; exact h
theorem PU.Good.set (h : u.Good) {n x : Int} (hn : n = -1 ∨ (0 ≤ n ∧ n < 12 ∧ n ≠ 6)) (h0 : n ≠ -1) : (setU u n x).R.getD 4 0 = 0 ∧ (setU u n x).R.getD 6 0 = 0 := by
  have e : ∀ (j k : Nat) (y : Int), k ≠ j → (u.R.set j y).getD k 0 = u.R.getD k 0 := fun j k y hk => by
    rw [List.getD_eq_getElem?_getD, List.getElem?_set_ne (Ne.symm hk), ← List.getD_eq_getElem?_getD]
  by_cases h1 : n = 1
  · rw [set_1 h1]; exact ⟨(e 1 4 _ (by decide)).trans h.r4, (e 1 6 _ (by decide)).trans h.r6⟩
  · by_cases h4 : n = 4
    · rw [set_4 h4]; exact ⟨h.r4, h.r6⟩
    · rw [set_n h1 h4]; exact ⟨(e _ 4 _ (by omega)).trans h.r4, (e _ 6 _ (by omega)).trans h.r6⟩
theorem set_rest (u : PU) (n x : Int) : (setU u n x).P = u.P ∧ (setU u n x).line = u.line ∧ (setU u n x).dot = u.dot ∧ (setU u n x).own = u.own := by
  unfold setU
  repeat' split
  all_goals exact ⟨rfl, rfl, rfl, rfl⟩
theorem PU.Good.write (h : u.Good) {a x : Int} (hx : 0 ≤ x ∧ x < 256) : (writeU u a x).Good := by
  have hk := h.ok.write (a := a) hx
  unfold writeU at hk ⊢
  split
  · split
    · rename_i h1 h2
      rw [if_pos h1, if_pos h2] at hk
      exact ⟨hk, h.own, h.r4, h.r6, h.pic, h.off⟩
    · exact h
  · rename_i h1
    rw [if_neg h1] at hk
    split
    · rename_i h2
      rw [if_pos h2] at hk
      split
      · rename_i h3
        rw [if_pos h3] at hk
        exact ⟨hk, h.own, h.r4, h.r6, h.pic, h.off⟩
      · exact h
    · rename_i h2
      rw [if_neg h2] at hk
      split
      · exact h
      · rename_i h3
        rw [if_neg h3] at hk
        obtain ⟨e1, e2, e3, e4⟩ := set_rest u (numU a) x
        obtain ⟨g4, g6⟩ := h.set (x := x) (num_range a) h3
        have hpic : ∀ y ∈ (setU u (numU a) x).P, y ≤ 3 := by rw [e1]; exact h.pic
        by_cases hz : litU u = true ∧ litU (setU u (numU a) x) = false
        · have hp : putU u (numU a) x = { setU u (numU a) x with line := 0, dot := 0, own := 0 } := off_yes hz.1 hz.2
          rw [hp] at hk ⊢
          exact ⟨hk, by show (0 : Int) ≤ 0 + (if (63 : Int) ≤ 0 then 1 else 0); decide, g4, g6, hpic, fun _ => ⟨rfl, rfl⟩⟩
        · have hp : putU u (numU a) x = setU u (numU a) x := by unfold putU offU; rw [if_neg hz]
          rw [hp] at hk ⊢
          refine ⟨hk, ?_, g4, g6, hpic, fun hf => ?_⟩
          · show (setU u (numU a) x).own ≤ (setU u (numU a) x).line + (if 63 ≤ (setU u (numU a) x).dot then 1 else 0)
            rw [e2, e3, e4]; exact h.own
          · show (setU u (numU a) x).line = 0 ∧ (setU u (numU a) x).dot = 0
            rw [e2, e3]
            have hf' : litU (setU u (numU a) x) = false := hf
            refine h.off ?_
            cases hq : litU u
            · rfl
            · exact absurd ⟨hq, hf'⟩ hz
theorem PU.Good.sprite (h : u.Good) (n : Int) {x : Int} (hx : 0 ≤ x ∧ x < 256) : (spriteU u n x).Good := by
  have hk := h.ok.sprite n hx
  unfold spriteU at hk ⊢
  split
  · rename_i h1
    rw [if_pos h1] at hk
    exact ⟨hk, h.own, h.r4, h.r6, h.pic, h.off⟩
  · exact h
theorem tickN_good (h : u.Good) : ∀ n, (tickN n u).Good
  | 0 => h
  | n + 1 => (tickN_good h n).tick
theorem wrN_good (h : u.Good) (addr : Int) {B : List Int} (hB : Byts B) : ∀ i, (wrN u addr B i).Good
  | 0 => h
  | i + 1 => (wrN_good h addr hB i).write (hB.get i)
theorem doU_good {w : World} (h : u.Good) {o : OpL} (ho : o.Ok w) : (doU u o).Good := by
  unfold doU
  split
  · exact tickN_good h _
  · split
    · exact h.write ho.x
    · split
      · exact h.sprite _ ho.x
      · split
        · exact wrN_good h _ ho.by_ _
        · exact h
end
theorem runU_good {w : World} : ∀ {l : List OpL} {s : PU}, s.Good → (∀ o ∈ l, o.Ok w) → (runU s l).Good
  | [], _, h, _ => h
  | o :: l, s, h, hl => show (runU (doU s o) l).Good from runU_good (l := l) (s := doU s o) (doU_good h (hl o (.head _))) fun x hx => hl x (.tail _ hx)
end Go.Proofs.Ytjceoaomkbabmaa
namespace Go.Proofs.Ytjceoaomkbabmaa
open Go Go.VV

theorem regs_back : ∀ (R : List Int) (n : Int), R.length = 12 → R.getD 4 0 = 0 → R.getD 6 0 = 0 → (((R.set 4 n).take 6 ++ 0 :: ((R.set 4 n).drop 7)).set 4 0) = R
  | [_, _, _, _, a, _, b, _, _, _, _, _], _, _, h4, h6 => by
    have h4 : a = 0 := h4
    have h6 : b = 0 := h6
    subst h4 h6; rfl
theorem bandn_how {x : Int} (hx : 0 ≤ x ∧ x < 256) : band .u8 x 120 = x → bandn .u8 x 120 = 0 :=
  byte_all (p := fun x => band .u8 x 120 = x → bandn .u8 x 120 = 0) (by decide +kernel) hx.1 hx.2
theorem getD_left {A B : List Int} {j : Nat} (h : j < A.length) : (A ++ B).getD j 0 = A.getD j 0 := by
  rw [List.getD_eq_getElem?_getD, List.getElem?_append_left h, ← List.getD_eq_getElem?_getD]
theorem set_same {l : List Int} {j : Nat} : l.set j (l.getD j 0) = l := by
  apply List.ext_getElem?
  intro i
  by_cases h : i = j
  · subst h
    by_cases hi : i < l.length
    · rw [List.getElem?_set_self hi, List.getD_eq_getElem?_getD, List.getElem?_eq_getElem hi]; rfl
    · rw [List.getElem?_eq_none (by simpa using hi), List.getElem?_eq_none (by omega)]
  · rw [List.getElem?_set_ne (Ne.symm h)]
theorem five {l : List Int} (h : 5 ≤ l.length) : l.take 5 = [l.getD 0 0, l.getD 1 0, l.getD 2 0, l.getD 3 0, l.getD 4 0] := by
  match l, h with
  | _ :: _ :: _ :: _ :: _ :: _, _ => rfl
section
variable {u : PU} (h : u.Wf)
include h
omit h in
theorem enc_0 : encU u = u.V ++ (u.O ++ ((r4 u).take 6 ++ ((r4 u).drop 7 ++ (tailE u ++ u.P)))) := by simp [encU, headE, regsE, List.append_assoc]
theorem enc_1 : (encU u).drop 8192 = u.O ++ ((r4 u).take 6 ++ ((r4 u).drop 7 ++ (tailE u ++ u.P))) := by rw [enc_0, List.drop_left' h.lV]
theorem enc_2 : (encU u).drop 8352 = (r4 u).take 6 ++ ((r4 u).drop 7 ++ (tailE u ++ u.P)) := by rw [show 8352 = 8192 + 160 by rfl, ← List.drop_drop, enc_1 h, List.drop_left' h.lO]
theorem enc_3 : (encU u).drop 8358 = (r4 u).drop 7 ++ (tailE u ++ u.P) := by rw [show 8358 = 8352 + 6 by rfl, ← List.drop_drop, enc_2 h, List.drop_left' (by simp [r4_len h])]
theorem enc_4 : (encU u).drop 8363 = tailE u ++ u.P := by rw [show 8363 = 8358 + 5 by rfl, ← List.drop_drop, enc_3 h, List.drop_left' (by simp [r4_len h])]
theorem enc_5 : (encU u).drop 8368 = u.P := by rw [show 8368 = 8363 + 5 by rfl, ← List.drop_drop, enc_4 h, List.drop_left' (l₁ := tailE u) (show (tailE u).length = 5 from rfl)]
theorem enc_line : (encU u).getD 8356 0 = u.line := by
  rw [show 8356 = 8352 + 4 by rfl, ← getD_drop, enc_2 h, getD_left (by simp [r4_len h]), getD_take _ (by decide)]
  unfold r4
  rw [List.getD_eq_getElem?_getD, List.getElem?_set_self (by rw [h.lR]; decide)]; rfl
theorem enc_how : (encU u).getD 8353 0 = u.R.getD 1 0 := by
  rw [show 8353 = 8352 + 1 by rfl, ← getD_drop, enc_2 h, getD_left (by simp [r4_len h]), getD_take _ (by decide)]
  unfold r4
  rw [List.getD_eq_getElem?_getD, List.getElem?_set_ne (by decide), ← List.getD_eq_getElem?_getD]
theorem enc_tail {j : Nat} (hj : j < 5) : (encU u).getD (8363 + j) 0 = (tailE u).getD j 0 := by rw [← getD_drop, enc_4 h, getD_left (by simpa [tailE] using hj)]
theorem enc_byts : Byts (encU u) := by
  have hb : ∀ {A B : List Int}, Byts A → Byts B → Byts (A ++ B) := fun ha hb x hx => (List.mem_append.1 hx).elim (ha x) (hb x)
  have h4 : Byts (r4 u) := fun x hx => by
    rcases List.mem_or_eq_of_mem_set hx with h1 | rfl
    · exact h.bR x h1
    · have := h.line; omega
  rw [enc_0]
  refine hb h.bV (hb h.bO (hb (fun x hx => h4 x (List.mem_of_mem_take hx)) (hb (fun x hx => h4 x (List.mem_of_mem_drop hx)) (hb (fun x hx => ?_) h.bP))))
  have h1 := h.dot; have h2 := h.own; have h3 := h.frames
  simp only [tailE, List.mem_cons, List.not_mem_nil, or_false] at hx
  rcases hx with rfl | rfl | rfl | rfl | rfl
  · omega
  · omega
  · omega
  · omega
  · unfold boolI; split <;> decide
end
section
variable {u : PU} (h : u.Good)
include h
theorem dec_enc : decU (encU u) = u := by
  have hw := h.ok.wf
  unfold decU decR
  rw [show (encU u).take 8192 = u.V by rw [enc_0, List.take_left' hw.lV], enc_1 hw, List.take_left' hw.lO, enc_2 hw, List.take_left' (by simp [r4_len hw]), enc_3 hw, List.take_left' (by simp [r4_len hw]), enc_5 hw, enc_line hw,
    show (encU u).getD 8363 0 = u.dot from enc_tail hw (j := 0) (by decide), show (encU u).getD 8364 0 = u.own % 256 from enc_tail hw (j := 1) (by decide), show (encU u).getD 8365 0 = u.frames % 256 from enc_tail hw (j := 2) (by decide),
    show (encU u).getD 8366 0 = u.frames / 256 from enc_tail hw (j := 3) (by decide), show (encU u).getD 8367 0 = boolI u.sig from enc_tail hw (j := 4) (by decide)]
  have e1 : ((r4 u).take 6 ++ 0 :: (r4 u).drop 7).set 4 0 = u.R := regs_back u.R u.line hw.lR h.r4 h.r6
  have h1 := h.own_lt; have h2 := hw.own; have h3 := hw.frames
  rw [e1, show u.own % 256 = u.own by omega, show u.frames % 256 + 256 * (u.frames / 256) = u.frames by omega]
  have e2 : (boolI u.sig == 1) = u.sig := by unfold boolI; cases u.sig <;> rfl
  rw [e2]
theorem ok_enc : okE (encU u) = true := by
  have hw := h.ok.wf
  refine ok_6 (by rw [enc_line hw]; exact h.ok.line) (by rw [show (encU u).getD 8363 0 = u.dot from enc_tail hw (j := 0) (by decide)]; exact h.ok.dot) ?_ ?_ ?_
  · rw [enc_how hw, bandn_how (hw.look 1) hw.how]; rfl
  · rw [show (encU u).getD 8367 0 = boolI u.sig from enc_tail hw (j := 4) (by decide)]; unfold boolI; split <;> decide
  · rw [enc_5 hw, List.any_eq_false]
    intro x hx
    have := h.pic x hx
    simp; omega
theorem decE_enc : decE (encU u) = 0 := (decE_yes (encU_len h.ok.wf) (ok_enc h)).symm
theorem decTo_enc (v : PU) : decTo v (encU u) = u := by rw [decTo_0 (decE_enc h).symm, dec_enc h]
end
section
variable {l : List Int} (hl : l.length = 31408) (hb : Byts l) (ho : okE l = true)
include hl hb ho
theorem enc_dec : encU (decU l) = l := by
  have c1 := hb.get 8363; have c2 := hb.get 8364; have c3 := hb.get 8365; have c4 := hb.get 8366; have c5 := hb.get 8367
  have hs : l.getD 8367 0 ≤ 1 := by
    unfold okE at ho
    simp only [Bool.and_eq_true, decide_eq_true_eq] at ho
    exact ho.1.2
  have hA : ((l.drop 8352).take 6).length = 6 := by simp [hl]
  have hB : ((l.drop 8358).take 5).length = 5 := by simp [hl]
  have hA4 : ((l.drop 8352).take 6).getD 4 0 = l.getD 8356 0 := by rw [getD_take _ (by decide), getD_drop]
  have e1 : r4 (decU l) = ((l.drop 8352).take 6) ++ 0 :: (l.drop 8358).take 5 := by
    unfold r4 decU decR
    dsimp only
    rw [List.set_set, List.set_append_left _ _ (by rw [hA]; decide), ← hA4, set_same]
  have e2 : (r4 (decU l)).take 6 = (l.drop 8352).take 6 := by rw [e1, List.take_left' hA]
  have e3 : (r4 (decU l)).drop 7 = (l.drop 8358).take 5 := by rw [e1, show 7 = 6 + 1 by rfl, ← List.drop_drop, List.drop_left' hA]; rfl
  have e4 : tailE (decU l) = (l.drop 8363).take 5 := by
    rw [five (by simp [hl])]
    simp only [getD_drop]
    unfold tailE decU
    dsimp only
    rw [show l.getD 8364 0 % 256 = l.getD (8363 + 1) 0 by show l.getD 8364 0 % 256 = l.getD 8364 0; omega, show (l.getD 8365 0 + 256 * l.getD 8366 0) % 256 = l.getD (8363 + 2) 0 by show _ = l.getD 8365 0; omega,
      show (l.getD 8365 0 + 256 * l.getD 8366 0) / 256 = l.getD (8363 + 3) 0 by show _ = l.getD 8366 0; omega, show boolI (l.getD 8367 0 == 1) = l.getD (8363 + 4) 0 from ?_]
    show _ = l.getD 8367 0
    rcases (show l.getD 8367 0 = 0 ∨ l.getD 8367 0 = 1 by omega) with h9 | h9 <;> rw [h9] <;> rfl
  unfold encU headE regsE
  rw [e2, e3, e4]
  show l.take 8192 ++ (l.drop 8192).take 160 ++ ((l.drop 8352).take 6 ++ (l.drop 8358).take 5) ++ (l.drop 8363).take 5 ++ l.drop 8368 = l
  rw [List.append_assoc, List.append_assoc, List.append_assoc, List.append_assoc]
  have k : ∀ a n b : Nat, a + n = b → (l.drop a).take n ++ l.drop b = l.drop a := fun a n b hab => by
    subst hab
    have := List.take_append_drop n (l.drop a)
    rwa [List.drop_drop] at this
  rw [k 8363 5 8368 rfl, k 8358 5 8363 rfl, k 8352 6 8358 rfl, k 8192 160 8352 rfl, List.take_append_drop]
end
theorem rowAt_nat (u : PU) {i : Nat} (hi : i < 144) : rowAt u (i : Int) = (u.P.drop (i * 160)).take 160 := rowAt_in ⟨by omega, by omega⟩
/-! ### a byte turned -/
def rightP (k : Nat) (x : Int) : Bool :=
  if k = 8353 then bandn .u8 x 120 == 0 else if k = 8356 then decide (x < 154) else if k = 8363 then decide (x < 114) else if k = 8367 then decide (x < 2) else if 8367 < k then decide (x < 4) else true
theorem all_set {p : Int → Bool} : ∀ {l : List Int} {i : Nat} {x : Int}, i < l.length → l.all p = true → (l.set i x).all p = p x
  | a :: l, 0, x, _, h => by
    simp only [List.all_cons, Bool.and_eq_true] at h
    simp only [List.set_cons_zero, List.all_cons, h.2, Bool.and_true]
  | a :: l, i + 1, x, hi, h => by
    simp only [List.all_cons, Bool.and_eq_true] at h
    simp only [List.set_cons_succ, List.all_cons, h.1, Bool.true_and]
    exact all_set (by simpa using hi) h.2
theorem ok_set {l : List Int} (hl : l.length = 31408) (ho : okE l = true) {k : Nat} (hk : k < 31408) (x : Int) : okE (l.set k x) = rightP k x := by
  unfold okE at ho
  simp only [Bool.and_eq_true] at ho
  obtain ⟨⟨⟨⟨h1, h2⟩, h3⟩, h4⟩, h5⟩ := ho
  have ne : ∀ j, j ≠ k → (l.set k x).getD j 0 = l.getD j 0 := fun j hj => by
    rw [List.getD_eq_getElem?_getD, List.getElem?_set_ne (Ne.symm hj), ← List.getD_eq_getElem?_getD]
  have eq : (l.set k x).getD k 0 = x := by rw [List.getD_eq_getElem?_getD, List.getElem?_set_self (by omega)]; rfl
  have dr : k < 8368 → (l.set k x).drop 8368 = l.drop 8368 := fun h9 => by rw [List.drop_set, if_pos h9]
  unfold okE rightP
  by_cases c1 : k = 8353
  · subst c1
    rw [if_pos rfl, eq, ne 8356 (by decide), ne 8363 (by decide), ne 8367 (by decide), dr (by decide), h1, h2, h4, h5]; simp
  · rw [if_neg c1, ne 8353 (Ne.symm c1), h3]
    by_cases c2 : k = 8356
    · subst c2
      rw [if_pos rfl, eq, ne 8363 (by decide), ne 8367 (by decide), dr (by decide), h2, h4, h5]; simp
    · rw [if_neg c2, ne 8356 (Ne.symm c2), h1]
      by_cases c3 : k = 8363
      · subst c3
        rw [if_pos rfl, eq, ne 8367 (by decide), dr (by decide), h4, h5]; simp
      · rw [if_neg c3, ne 8363 (Ne.symm c3), h2]
        by_cases c4 : k = 8367
        · subst c4
          rw [if_pos rfl, eq, dr (by decide), h5]
          simp only [Bool.true_and, Bool.and_true]
          exact decide_eq_decide.2 (by omega)
        · rw [if_neg c4, ne 8367 (Ne.symm c4), h4]
          by_cases c5 : 8367 < k
          · rw [if_pos c5, List.drop_set, if_neg (by omega), all_set (by simp [hl]; omega) h5]
            simp only [Bool.true_and]
            exact decide_eq_decide.2 (by omega)
          · rw [if_neg c5, dr (by omega), h5]; rfl
end Go.Proofs.Ytjceoaomkbabmaa
namespace Go.Proofs.Ytjceoaomkbabmaa
open Go Go.VV

theorem vec_in {k : IntKind} {l : List Int} {T n : Nat} {v : Value} {G : Heap} (h : Vec T 1 v n (l.map (.int k)) G) (hl : 0 < l.length) :
    ∃ bb c o, v = .slice (some ⟨bb, 0, none⟩) l.length c ∧ l.length ≤ c ∧ Gives G k (some ⟨bb, 0, none⟩) l ∧ G = [(bb, o)] := by
  obtain ⟨a, c, hv, hc, hg⟩ := Lst.of_vec h
  generalize hx : l.map (Value.int k) = xs at h
  cases h with
  | nil => have := congrArg List.length hx; simp at this; subst this; simp at hl
  | row b _ cap _ sp hn hc' hm hle =>
    cases hv
    exact ⟨b, c, _, rfl, hc, hg, rfl⟩
theorem St.ne_at {w0 w : World} {ms : List Nat} {H : Heap} (h : St w0 ms H w) {x y : Nat × Obj} (i j : Nat) (hx : H[i]? = some x) (hy : H[j]? = some y) (hij : i ≠ j) : x.1 ≠ y.1 := by
  intro e
  have hn := h.nodup
  have h1 : (H.map (·.1))[i]? = some x.1 := by rw [List.getElem?_map, hx]; rfl
  have h2 : (H.map (·.1))[j]? = some y.1 := by rw [List.getElem?_map, hy]; rfl
  obtain ⟨a1, b1⟩ := List.getElem?_eq_some_iff.1 h1
  obtain ⟨a2, b2⟩ := List.getElem?_eq_some_iff.1 h2
  rcases Nat.lt_or_gt_of_ne hij with h9 | h9
  · exact List.pairwise_iff_getElem.1 hn i j a1 a2 h9 (b1.trans (e.trans b2.symm))
  · exact List.pairwise_iff_getElem.1 hn j i a2 a1 h9 (b2.trans (e.symm.trans b1.symm))
theorem vec_n {k : IntKind} {l : List Int} {T n n0 : Nat} {v : Value} {G : Heap} (h : Vec T 1 v n (l.map (.int k)) G) (hl : l.length = n0) (h0 : 0 < n0) :
    ∃ bb c sp, v = .slice (some ⟨bb, 0, none⟩) n0 c ∧ n0 ≤ c ∧ (∀ w : World, w.heap[bb]? = some (blk (l.map (.int k) ++ sp) T) → Row w bb 0 (l.map (.int k))) ∧ G = [(bb, blk (l.map (.int k) ++ sp) T)] := by
  have hn := h.len
  generalize hx : l.map (Value.int k) = xs at h
  cases h with
  | nil => have := congrArg List.length hx; simp at this; subst this; simp at hl; omega
  | row b _ cap _ sp hn' hc' hm hle =>
    simp only [List.length_map, Nat.mul_one] at hn
    have h1 : n = n0 := by rw [← hl, hn]
    subst h1
    exact ⟨b, cap, sp, rfl, hle, fun w hw => Row.left (r := sp) (Row.of_blk (cs := (xs ++ sp).toArray) hw fun j v hv => by simpa using hv), rfl⟩
theorem ns_take {w : World} {k : IntKind} {a : Option Addr} {l : List Int} (h : Ns w k a l) (n : Nat) : Ns w k a (l.take n) := fun h0 => by
  obtain ⟨b, off, ha, hr⟩ := h (by rw [List.length_take] at h0; omega)
  exact ⟨b, off, ha, hr.takeK n⟩
theorem mask_le (n : Int) : ∃ K : Nat, band .i64 n 4095 = (K : Int) ∧ K ≤ 4095 := by
  have h1 : (BitVec.ofInt 64 n &&& BitVec.ofInt 64 4095).toNat ≤ 4095 := by
    rw [BitVec.toNat_and]
    exact Nat.le_trans Nat.and_le_right (by decide)
  obtain ⟨K, hK⟩ : ∃ K, K = (BitVec.ofInt 64 n &&& BitVec.ofInt 64 4095).toNat := ⟨_, rfl⟩
  rw [← hK] at h1
  exact ⟨K, by show IntKind.wrap .i64 ((BitVec.ofInt 64 n &&& BitVec.ofInt 64 4095).toNat : Int) = _; rw [← hK]; exact wrap_i64 (by omega) (by omega), h1⟩
theorem putL_intA {l : List Int} {o : Nat} (k : IntKind) (h : o < l.length) (x : Int) (sp : List Value) : putL (l.map (.int k) ++ sp) (0 + o) [.int k x] = (l.set o x).map (.int k) ++ sp := by
  rw [Nat.zero_add, putL_left (by rw [List.length_map]; simp only [List.length_cons, List.length_nil]; omega), putL_int k h x]
theorem byts_take {l : List Int} (h : Byts l) (k : Nat) : Byts (l.take k) := fun y hy => h y (List.mem_of_mem_take hy)
theorem byts_snoc {l : List Int} (h : Byts l) {x : Int} (hx : 0 ≤ x ∧ x < 256) : Byts (l ++ [x]) := fun y hy => (List.mem_append.1 hy).elim (h y) (by intro h9; obtain rfl := List.mem_singleton.1 h9; exact hx)
theorem how_byte {x : Int} (h1 : 0 ≤ x) (h2 : x < 256) : (bandn .u8 x 120 == 0) = true → band .u8 x 120 = x :=
  byte_all (p := fun x => (bandn .u8 x 120 == 0) = true → band .u8 x 120 = x) (by decide +kernel) h1 h2
theorem decU_wf {l : List Int} (hl : l.length = 31408) (hb : Byts l) (ho : okE l = true) : (decU l).Wf := by
  unfold okE at ho
  simp only [Bool.and_eq_true, decide_eq_true_eq] at ho
  obtain ⟨⟨⟨⟨h1, h2⟩, h3⟩, h4⟩, h5⟩ := ho
  have c0 := hb.get 8356; have c1 := hb.get 8363; have c2 := hb.get 8364; have c3 := hb.get 8365; have c4 := hb.get 8366; have c5 := hb.get 8353
  have hR : Byts (decR l) := fun x hx => by
    unfold decR at hx
    rcases List.mem_or_eq_of_mem_set hx with h9 | rfl
    · rcases List.mem_append.1 h9 with h8 | h8
      · exact hb x (List.mem_of_mem_drop (List.mem_of_mem_take h8))
      · rcases List.mem_cons.1 h8 with rfl | h7
        · decide
        · exact hb x (List.mem_of_mem_drop (List.mem_of_mem_take h7))
    · decide
  have hA : ((l.drop 8352).take 6).length = 6 := by simp [hl]
  have e1 : (decR l).getD 1 0 = l.getD 8353 0 := by
    unfold decR
    rw [List.getD_eq_getElem?_getD, List.getElem?_set_ne (by decide), ← List.getD_eq_getElem?_getD, getD_left (by rw [hA]; decide), getD_take _ (by decide), getD_drop]
  refine ⟨?_, ?_, ?_, ?_, fun x hx => hb x (List.mem_of_mem_take hx), fun x hx => hb x (List.mem_of_mem_drop (List.mem_of_mem_take hx)), hR, fun x hx => hb x (List.mem_of_mem_drop hx), ?_, ?_, ?_, ?_, ?_⟩
  · show (l.take 8192).length = _; simp [hl]
  · show ((l.drop 8192).take 160).length = _; simp [hl]
  · show (decR l).length = _; simp [decR, hl]
  · show (l.drop 8368).length = _; simp [hl]
  · show 0 ≤ l.getD 8356 0 ∧ l.getD 8356 0 ≤ 154; omega
  · show 0 ≤ l.getD 8363 0 ∧ l.getD 8363 0 ≤ 114; omega
  · show 0 ≤ l.getD 8364 0 ∧ l.getD 8364 0 ≤ 600; omega
  · show 0 ≤ l.getD 8365 0 + 256 * l.getD 8366 0 ∧ l.getD 8365 0 + 256 * l.getD 8366 0 < 65536; omega
  · show band .u8 ((decR l).getD 1 0) 120 = (decR l).getD 1 0
    rw [e1]; exact how_byte c5.1 c5.2 h3
end Go.Proofs.Ytjceoaomkbabmaa
namespace Go.Proofs.Ytjceoaomkbabmaa
open Go Go.VV Go.Proofs
set_option linter.unusedSimpArgs false
set_option linter.unusedVariables false
set_option maxRecDepth 100000
set_option maxHeartbeats 1000000 in
theorem lawBack_fn (w : World) (a : Option Addr) (c : Nat) (l : List OpL) (hp : ∀ o ∈ l, o.Ok w) (hl : l.length ≤ maxLen) (hE : Els w cO a l) (a' : Option Addr) (c' : Nat) (m : List OpL) (hq : ∀ o ∈ m, o.Ok w) (hm : m.length ≤ maxLen) (hF : Els w cO a' m) : Does Try.prog 7 [.slice a l.length c, .slice a' m.length c'] w [] (fun v H => H = [] ∧ v = .bool true) := by
  have hml : maxLen = 9223372036854775807 := by decide
  refine does_of Try.func7 rfl rfl rfl (St.refl w) ?_
  refine c_seq ?_
  refine c_region ?_
  refine l_l rfl rfl rfl ?_
  refine l_nil ?_
  refine c_seq ?_
  refine c_seq ?_
  refine c_region ?_
  refine l_x (x_val call_10 rfl (fun w hw => awake_fn w)) rfl rfl ?_
  rintro _ _ ⟨rfl, rfl⟩
  refine l_l rfl rfl rfl ?_
  refine l_l rfl rfl rfl ?_
  refine l_l rfl rfl rfl ?_
  refine l_x (x_call call_20 rfl (fun w hw => few_fn w a c l (fun o ho => (hp o ho).later hw) hl (hE.later0 hw))) rfl rfl ?_
  rintro _ _ ⟨G15, ⟨rfl, f, rfl⟩, rfl⟩
  refine l_l rfl rfl rfl ?_
  refine l_l rfl rfl rfl ?_
  refine l_b rfl rfl rfl (fun h1 => ?_) (fun h1 => ?_)
  · have h1n := by first | exact of_decide_eq_true h1 | exact of_decide_eq_false h1 | exact eq_of_beq h1 | exact ne_of_beq_false h1 | exact bne_t h1 | exact bne_f h1 | exact h1
    refine l_p rfl rfl ?_
    refine l_p rfl rfl ?_
    refine l_p rfl rfl ?_
    refine l_l rfl rfl rfl ?_
    refine l_nil ?_
    refine c_true rfl ?_
    refine c_seq ?_
    refine c_region ?_
    refine l_x (x_val call_10 rfl (fun w hw => awake_fn w)) rfl rfl ?_
    rintro _ _ ⟨rfl, rfl⟩
    refine l_l rfl rfl rfl ?_
    refine l_nil ?_
    refine c_ret ?_
    exact l_end (fun _ _ => rets_v rfl) (List.nil_sublist _) ⟨rfl, rfl⟩
  · have h1n := by first | exact of_decide_eq_true h1 | exact of_decide_eq_false h1 | exact eq_of_beq h1 | exact ne_of_beq_false h1 | exact bne_t h1 | exact bne_f h1 | exact h1
    refine l_l rfl rfl rfl ?_
    refine l_x (x_call call_20 rfl (fun w hw => few_fn w a' c' m (fun o ho => (hq o ho).later hw) hm (hF.later0 hw))) rfl rfl ?_
    rintro _ _ ⟨G20, ⟨rfl, f2, rfl⟩, rfl⟩
    refine l_l rfl rfl rfl ?_
    refine l_l rfl rfl rfl ?_
    refine l_nil ?_
    refine c_cond rfl (fun h2 => ?_) (fun h2 => ?_)
    · have h2n := by first | exact of_decide_eq_true h2 | exact of_decide_eq_false h2 | exact eq_of_beq h2 | exact ne_of_beq_false h2 | exact bne_t h2 | exact bne_f h2 | exact h2
      refine c_seq ?_
      refine c_region ?_
      refine l_x (x_val call_10 rfl (fun w hw => awake_fn w)) rfl rfl ?_
      rintro _ _ ⟨rfl, rfl⟩
      refine l_l rfl rfl rfl ?_
      refine l_nil ?_
      refine c_ret ?_
      exact l_end (fun _ _ => rets_v rfl) (List.nil_sublist _) ⟨rfl, rfl⟩
    · have h2n := by first | exact of_decide_eq_true h2 | exact of_decide_eq_false h2 | exact eq_of_beq h2 | exact ne_of_beq_false h2 | exact bne_t h2 | exact bne_f h2 | exact h2
      refine c_skip ?_
      refine c_seq ?_
      refine c_region ?_
      refine l_x (x_call call_11 rfl (fun w hw => new_fn w)) rfl rfl ?_
      rintro _ _ ⟨G24, ⟨b, rfl, rfl⟩, rfl⟩
      refine l_x (x_call call_11 rfl (fun w hw => new_fn w)) rfl rfl ?_
      rintro _ _ ⟨G25, ⟨b2, rfl, rfl⟩, rfl⟩
      refine l_x (x_call call_21 rfl (fun w hw => rnew_fn w)) rfl rfl ?_
      rintro _ _ ⟨G26, ⟨rb, bv, bs, rfl, rfl⟩, rfl⟩
      refine l_l rfl rfl rfl ?_
      refine l_l rfl rfl rfl ?_
      refine l_l rfl rfl rfl ?_
      refine l_nil ?_
      refine c_seq ?_
      refine c_seq ?_
      refine c_region ?_
      refine l_l rfl rfl rfl ?_
      refine l_l (by first | exact light_len rfl rfl | exact light_lens rfl rfl | rfl) rfl rfl ?_
      refine l_l rfl rfl rfl ?_
      refine l_nil ?_
      refine c_block ?_
      refine c_loop (σ := Nat) [8, 29, 30, 31, 32, 33, 34, 35, 36, 37, 38, 39] (fun i => [(29, .int .i64 i)]) (fun i => DH b rb bv bs (runU zeroU (l.take i)) ++ [(b2, blk (cU zeroU) 60)]) (fun i => i ≤ l.length) (fun i => l.length - i) 0 ?_ ?_ ?_ ?_
      · exact Nat.zero_le _
      · exact .cons rfl .nil
      · exact fun _ h => St.fl [[_, _, _], [_], [_]] [2, 0, 1] rfl h
      · rintro i y hi
        refine c_seq ?_
        refine c_region ?_
        refine l_l rfl rfl rfl ?_
        refine l_nil ?_
        refine c_seq ?_
        refine c_cond rfl (fun h3 => ?_) (fun h3 => ?_)
        · have h3n := by first | exact of_decide_eq_true h3 | exact of_decide_eq_false h3 | exact eq_of_beq h3 | exact ne_of_beq_false h3 | exact bne_t h3 | exact bne_f h3 | exact h3
          refine c_skip ?_
          refine c_seq ?_
          refine c_block ?_
          refine c_seq ?_
          refine c_region ?_
          refine l_l rfl rfl rfl ?_
          refine l_l rfl rfl rfl ?_
          refine l_nil ?_
          obtain ⟨o, hlo⟩ : ∃ o, l[i]? = some o := ⟨_, get_some (by omega)⟩
          obtain ⟨bb, off, rfl, hr⟩ := hE.row (i := i) (by omega)
          refine c_region ?_
          refine l_l rfl rfl rfl ?_
          refine l_l rfl rfl rfl ?_
          refine l_l rfl rfl rfl ?_
          refine l_l rfl rfl rfl ?_
          refine l_l (idx_slice (s := 5) i rfl rfl rfl rfl (by omega)) rfl rfl ?_
          refine l_x (x_loadA rfl rfl rfl (row_old (hr.nth' cO_len hlo) (by simp))) rfl rfl ?_
          rintro _ _ ⟨rfl, rfl⟩
          refine l_x (x_callF (A := DH b rb bv bs (runU zeroU (l.take i))) (G := [(b2, _)]) [b, rb, bv, bs] call_22 rfl (fun _ hb => mem_fst (G := DH b rb bv bs (runU zeroU (l.take i))) hb) (fun w9 hw9 => do_fn b rb bv bs (runU zeroU (l.take i)) (runU_okt zeroU_ok hp i) o w9 (OpL.Ok.later (hp _ (List.mem_of_getElem? hlo)) hw9) (OpL.Ok.away (hp _ (List.mem_of_getElem? hlo)) hw9 (fun _ hb => (mem_fst (G := DH b rb bv bs (runU zeroU (l.take i))) hb).imp fun _ h => List.mem_append_left _ h)) (St.lentV hw9))) rfl rfl ?_
          rintro _ _ ⟨_, ⟨rfl, rfl⟩, rfl⟩
          refine l_nil ?_
          refine c_region ?_
          refine l_as (v := (.int .i64 ((i + 1 : Nat) : Int))) rfl rfl rfl (congrArg _ (succ_law (by omega))) ?_
          refine l_l rfl rfl rfl ?_
          refine l_nil ?_
          exact ⟨i + 1, by omega, by omega, .cons rfl .nil, (by repeat (first | exact Agree.refl _ _ | exact Agree.mix rfl | refine Agree.put rfl ?_ | refine Agree.keep rfl ?_)), fun _ h => by rw [runU_snoc _ hlo]; exact h⟩
        · have h3n := by first | exact of_decide_eq_true h3 | exact of_decide_eq_false h3 | exact eq_of_beq h3 | exact ne_of_beq_false h3 | exact bne_t h3 | exact bne_f h3 | exact h3
          refine c_exit rfl ?_
          refine c_seq ?_
          obtain rfl : i = l.length := by omega
          rw [List.take_length]
          refine c_region ?_
          refine l_l rfl rfl rfl ?_
          refine l_x (x_call call_25 rfl (fun w hw => enc_fn b (runU zeroU l) (runU_ok zeroU_ok hp).wf w (row_own (by repeat (first | exact .head _ | refine .tail _ ?_ | refine List.mem_append_right _ ?_)) w hw))) rfl rfl ?_
          rintro v41 _ ⟨G41, hV41, rfl⟩
          obtain ⟨b41, c41, o41, rfl, hc41, hg41, rfl⟩ := vec_in hV41 (by rw [encU_len (runU_ok zeroU_ok hp).wf]; decide)
          refine l_l rfl rfl rfl ?_
          refine l_nil ?_
          refine c_seq ?_
          refine c_seq ?_
          refine c_region ?_
          refine l_heap (H' := [(b2, blk (cU zeroU) 60)] ++ ([(b41, o41)] ++ DH b rb bv bs (runU zeroU l))) (fun _ h => St.fl [[_], [_, _, _, _], [_]] [2, 0, 1] rfl h) ?_
          refine l_l rfl rfl rfl ?_
          refine l_l rfl rfl rfl ?_
          refine l_x (x_callF (A := [(b2, _)]) (G := [(b41, o41), (b, _), (rb, _), (bv, _), (bs, _)]) [b2] call_27 rfl (by simp) (fun w hw => dec_fn b2 zeroU zeroU_wf w (St.lentV hw) (some ⟨b41, 0, none⟩) c41 (encU (runU zeroU l)) (enc_byts (runU_ok zeroU_ok hp).wf) hc41 (hg41.ns hw (fun x hx => by repeat (first | exact hx | exact List.mem_append_left _ hx | refine List.mem_append_right _ ?_ | refine .tail _ ?_))) (fun p hp9 => by obtain rfl := Option.some.inj hp9; exact St.ne_at hw 1 0 rfl rfl (by decide)))) rfl rfl ?_
          rintro _ _ ⟨_, ⟨rfl, rfl⟩, rfl⟩
          rw [decE_enc (runU_good zeroU_good hp), decTo_enc (runU_good zeroU_good hp)]
          refine l_sure false rfl rfl rfl rfl ?_
          refine l_l rfl rfl rfl ?_
          refine l_l rfl rfl rfl ?_
          refine l_x (x_call call_25 rfl (fun w hw => enc_fn b2 (runU zeroU l) (runU_ok zeroU_ok hp).wf w (row_own (by repeat (first | exact .head _ | refine .tail _ ?_ | refine List.mem_append_right _ ?_)) w hw))) rfl rfl ?_
          rintro v48 _ ⟨G48, hV48, rfl⟩
          obtain ⟨b48, c48, o48, rfl, hc48, hg48, rfl⟩ := vec_in hV48 (by rw [encU_len (runU_ok zeroU_ok hp).wf]; decide)
          refine l_l rfl rfl rfl ?_
          refine l_x (x_val call_24 rfl (fun w hw => same_fn (some ⟨b48, 0, none⟩) (some ⟨b41, 0, none⟩) c48 c41 (encU (runU zeroU l)) (by rw [encU_len (runU_ok zeroU_ok hp).wf]; decide) w (hg48.ns hw (fun x hx => by repeat (first | exact hx | exact List.mem_append_left _ hx | refine List.mem_append_right _ ?_ | refine .tail _ ?_))) (hg41.ns hw (fun x hx => by repeat (first | exact hx | exact List.mem_append_left _ hx | refine List.mem_append_right _ ?_ | refine .tail _ ?_))))) rfl rfl ?_
          rintro _ _ ⟨rfl, rfl⟩
          refine l_l rfl rfl rfl ?_
          refine l_l rfl rfl rfl ?_
          refine l_nil ?_
          refine c_false rfl ?_
          refine c_skip ?_
          refine c_seq ?_
          refine c_seq ?_
          refine c_region ?_
          refine l_l rfl rfl rfl ?_
          refine l_l (by first | exact light_len rfl rfl | exact light_lens rfl rfl | rfl) rfl rfl ?_
          refine l_l rfl rfl rfl ?_
          refine l_nil ?_
          refine c_block ?_
          refine c_loop (σ := Nat) [4, 10, 55, 56, 57, 58, 59, 60, 61, 62, 63, 64, 65, 66] (fun i => [(55, .int .i64 i)]) (fun i => DH b2 rb bv bs (runU (runU zeroU l) (m.take i))) (fun i => i ≤ m.length) (fun i => m.length - i) 0 ?_ ?_ ?_ ?_
          · exact Nat.zero_le _
          · exact .cons rfl .nil
          · exact fun _ h => St.fl [[_], [_], [_], [_], [_, _, _]] [1, 4] rfl h
          · rintro i y hi
            refine c_seq ?_
            refine c_region ?_
            refine l_l rfl rfl rfl ?_
            refine l_nil ?_
            refine c_seq ?_
            refine c_cond rfl (fun h4 => ?_) (fun h4 => ?_)
            · have h4n := by first | exact of_decide_eq_true h4 | exact of_decide_eq_false h4 | exact eq_of_beq h4 | exact ne_of_beq_false h4 | exact bne_t h4 | exact bne_f h4 | exact h4
              refine c_skip ?_
              refine c_seq ?_
              refine c_block ?_
              refine c_seq ?_
              refine c_region ?_
              refine l_l rfl rfl rfl ?_
              refine l_l rfl rfl rfl ?_
              refine l_nil ?_
              refine c_seq ?_
              obtain ⟨o, hlo⟩ : ∃ o, m[i]? = some o := ⟨_, get_some (by omega)⟩
              obtain ⟨bb, off, rfl, hr⟩ := hF.row (i := i) (by omega)
              refine c_region ?_
              refine l_l rfl rfl rfl ?_
              refine l_l rfl rfl rfl ?_
              refine l_l rfl rfl rfl ?_
              refine l_l rfl rfl rfl ?_
              refine l_l (idx_slice (s := 5) i rfl rfl rfl rfl (by omega)) rfl rfl ?_
              refine l_x (x_loadA rfl rfl rfl (row_old (hr.nth' cO_len hlo) (by simp))) rfl rfl ?_
              rintro _ _ ⟨rfl, rfl⟩
              refine l_x (x_callA call_22 rfl (fun w9 hw9 => do_fn b2 rb bv bs (runU (runU zeroU l) (m.take i)) (runU_okt (runU_ok zeroU_ok hp) hq i) o w9 (OpL.Ok.later (hq _ (List.mem_of_getElem? hlo)) hw9) (OpL.Ok.away (hq _ (List.mem_of_getElem? hlo)) hw9 (fun _ hb => mem_fst (G := DH b2 rb bv bs (runU (runU zeroU l) (m.take i))) hb)) (St.lentA hw9))) rfl rfl ?_
              rintro _ _ ⟨rfl, rfl⟩
              refine l_l rfl rfl rfl ?_
              refine l_nil ?_
              refine c_false rfl ?_
              refine c_skip ?_
              refine c_region ?_
              refine l_as (v := (.int .i64 ((i + 1 : Nat) : Int))) rfl rfl rfl (congrArg _ (succ_law (by omega))) ?_
              refine l_l rfl rfl rfl ?_
              refine l_nil ?_
              exact ⟨i + 1, by omega, by omega, .cons rfl .nil, (by repeat (first | exact Agree.refl _ _ | exact Agree.mix rfl | refine Agree.put rfl ?_ | refine Agree.keep rfl ?_)), fun _ h => by rw [runU_snoc _ hlo]; exact h⟩
            · have h4n := by first | exact of_decide_eq_true h4 | exact of_decide_eq_false h4 | exact eq_of_beq h4 | exact ne_of_beq_false h4 | exact bne_t h4 | exact bne_f h4 | exact h4
              refine c_exit rfl ?_
              refine c_seq ?_
              obtain rfl : i = m.length := by omega
              rw [List.take_length]
              refine c_region ?_
              refine l_l rfl rfl rfl ?_
              refine l_x (x_call call_25 rfl (fun w hw => enc_fn b2 (runU (runU zeroU l) m) (runU_ok (runU_ok zeroU_ok hp) hq).wf w (row_own (by repeat (first | exact .head _ | refine .tail _ ?_ | refine List.mem_append_right _ ?_)) w hw))) rfl rfl ?_
              rintro v68 _ ⟨G68, hV68, rfl⟩
              obtain ⟨b68, c68, o68, rfl, hc68, hg68, rfl⟩ := vec_in hV68 (by rw [encU_len (runU_ok (runU_ok zeroU_ok hp) hq).wf]; decide)
              refine l_l rfl rfl rfl ?_
              refine l_x (x_call call_26 rfl (fun w hw => renc_fn rb bv bs (runU (runU zeroU l) m) (runU_ok (runU_ok zeroU_ok hp) hq).wf w (RRow.of hw (by repeat (first | exact .head _ | refine .tail _ ?_ | refine List.mem_append_right _ ?_)) (by repeat (first | exact .head _ | refine .tail _ ?_ | refine List.mem_append_right _ ?_)) (by repeat (first | exact .head _ | refine .tail _ ?_ | refine List.mem_append_right _ ?_))))) rfl rfl ?_
              rintro v70 _ ⟨G70, hV70, rfl⟩
              obtain ⟨b70, c70, o70, rfl, hc70, hg70, rfl⟩ := vec_in hV70 (by rw [encU_len (runU_ok (runU_ok zeroU_ok hp) hq).wf]; decide)
              refine l_x (x_val call_24 rfl (fun w hw => same_fn (some ⟨b68, 0, none⟩) (some ⟨b70, 0, none⟩) c68 c70 (encU (runU (runU zeroU l) m)) (by rw [encU_len (runU_ok (runU_ok zeroU_ok hp) hq).wf]; decide) w (hg68.ns hw (fun x hx => by repeat (first | exact hx | exact List.mem_append_left _ hx | refine List.mem_append_right _ ?_ | refine .tail _ ?_))) (hg70.ns hw (fun x hx => by repeat (first | exact hx | exact List.mem_append_left _ hx | refine List.mem_append_right _ ?_ | refine .tail _ ?_))))) rfl rfl ?_
              rintro _ _ ⟨rfl, rfl⟩
              refine l_l rfl rfl rfl ?_
              refine l_nil ?_
              refine c_ret ?_
              exact l_end (fun _ _ => rets_v rfl) (List.nil_sublist _) ⟨rfl, rfl⟩

end Go.Proofs.Ytjceoaomkbabmaa
namespace Go.Proofs.Ytjceoaomkbabmaa
open Go Go.VV Go.Proofs
set_option linter.unusedSimpArgs false
set_option linter.unusedVariables false
set_option maxRecDepth 100000
set_option maxHeartbeats 1000000 in
theorem lawBytes_fn (w : World) (a : Option Addr) (c : Nat) (l : List OpL) (hp : ∀ o ∈ l, o.Ok w) (hl : l.length ≤ maxLen) (hE : Els w cO a l) (q x n : Int) (hq : 0 ≤ q ∧ q < 65536) (hx : 0 ≤ x ∧ x < 256) (hn : -9223372036854775808 ≤ n ∧ n ≤ 9223372036854775807) : Does Try.prog 8 [.slice a l.length c, .int .u16 q, .int .u8 x, .int .i64 n] w [] (fun v H => H = [] ∧ v = .bool true) := by
  have hml : maxLen = 9223372036854775807 := by decide
  refine does_of Try.func8 rfl rfl rfl (St.refl w) ?_
  refine c_seq ?_
  refine c_region ?_
  refine l_l rfl rfl rfl ?_
  refine l_nil ?_
  refine c_seq ?_
  refine c_seq ?_
  refine c_region ?_
  refine l_x (x_val call_10 rfl (fun w hw => awake_fn w)) rfl rfl ?_
  rintro _ _ ⟨rfl, rfl⟩
  refine l_l rfl rfl rfl ?_
  refine l_l rfl rfl rfl ?_
  refine l_l rfl rfl rfl ?_
  refine l_x (x_call call_20 rfl (fun w hw => few_fn w a c l (fun o ho => (hp o ho).later hw) hl (hE.later0 hw))) rfl rfl ?_
  rintro _ _ ⟨G20, ⟨rfl, f, rfl⟩, rfl⟩
  refine l_l rfl rfl rfl ?_
  refine l_l rfl rfl rfl ?_
  refine l_nil ?_
  refine c_cond rfl (fun h1 => ?_) (fun h1 => ?_)
  · have h1n := by first | exact of_decide_eq_true h1 | exact of_decide_eq_false h1 | exact eq_of_beq h1 | exact ne_of_beq_false h1 | exact bne_t h1 | exact bne_f h1 | exact h1
    refine c_seq ?_
    refine c_region ?_
    refine l_x (x_val call_10 rfl (fun w hw => awake_fn w)) rfl rfl ?_
    rintro _ _ ⟨rfl, rfl⟩
    refine l_l rfl rfl rfl ?_
    refine l_nil ?_
    refine c_ret ?_
    exact l_end (fun _ _ => rets_v rfl) (List.nil_sublist _) ⟨rfl, rfl⟩
  · have h1n := by first | exact of_decide_eq_true h1 | exact of_decide_eq_false h1 | exact eq_of_beq h1 | exact ne_of_beq_false h1 | exact bne_t h1 | exact bne_f h1 | exact h1
    refine c_skip ?_
    refine c_seq ?_
    refine c_region ?_
    refine l_l rfl rfl rfl ?_
    refine l_x (x_call call_28 rfl (fun w hw => play_fn w a c l (fun o ho => (hp o ho).later hw) hl (hE.later0 hw))) rfl rfl ?_
    rintro _ _ ⟨G25, ⟨b, rfl, rfl⟩, rfl⟩
    refine l_l rfl rfl rfl ?_
    refine l_nil ?_
    refine c_seq ?_
    refine c_region ?_
    refine l_l rfl rfl rfl ?_
    refine l_x (x_call call_25 rfl (fun w hw => enc_fn b (runU zeroU l) (runU_ok zeroU_ok hp).wf w (row_own (by repeat (first | exact .head _ | refine .tail _ ?_ | refine List.mem_append_right _ ?_)) w hw))) rfl rfl ?_
    rintro v27 _ ⟨G27, hV27, rfl⟩
    obtain ⟨b27, c27, sp27, rfl, hc27, hr27, rfl⟩ := vec_n hV27 (encU_len (runU_ok zeroU_ok hp).wf) (by decide)
    refine l_l rfl rfl rfl ?_
    refine l_nil ?_
    refine c_seq ?_
    refine c_seq ?_
    refine c_region ?_
    refine l_l rfl rfl rfl ?_
    refine l_l rfl rfl rfl ?_
    refine l_nil ?_
    refine c_cond rfl (fun h2 => ?_) (fun h2 => ?_)
    · have h2n := by first | exact of_decide_eq_true h2 | exact of_decide_eq_false h2 | exact eq_of_beq h2 | exact ne_of_beq_false h2 | exact bne_t h2 | exact bne_f h2 | exact h2
      refine c_seq ?_
      obtain ⟨K, hK, hK2⟩ := mask_le n
      refine c_region ?_
      refine l_heap (H' := [(b, blk (cU (runU zeroU l)) 60), (b27, blk ((encU (runU zeroU l)).map (Value.int .u8) ++ sp27) 5)]) (fun _ h => St.fl [[_], [_]] [1, 0] rfl h) ?_
      refine l_l rfl rfl rfl ?_
      refine l_l rfl rfl rfl ?_
      refine l_l rfl rfl rfl ?_
      refine l_l (by first | exact light_len rfl rfl | exact light_lens rfl rfl | rfl) rfl rfl ?_
      refine l_as (l_sub rfl rfl) rfl rfl (by first | exact as_i64 (by omega) (by omega) | rfl) ?_
      refine l_l rfl rfl rfl ?_
      refine l_as (v := (.int .i64 (K : Int))) rfl rfl rfl (congrArg _ hK) ?_
      refine l_as (l_sub rfl rfl) rfl rfl (by first | exact as_i64 (by omega) (by omega) | rfl) ?_
      refine l_as (v := (.int .i64 ((31407 - K : Nat) : Int))) (light_max rfl rfl) rfl rfl (congrArg _ (by omega)) ?_
      refine l_as (v := (.slice (some ⟨b27, 0, none⟩) ((encU (runU zeroU l)).take (31407 - K)).length c27)) (cut_pre (31407 - K) rfl rfl rfl rfl (by omega)) rfl rfl (by rw [List.length_take, (encU_len (runU_ok zeroU_ok hp).wf), Nat.min_eq_left (by omega)]) ?_
      refine l_x (x_callF (A := [(b, _)]) (G := [(b27, blk ((encU (runU zeroU l)).map (Value.int .u8) ++ sp27) 5)]) [b] call_27 rfl (by simp) (fun w hw => by have h9 := dec_fn b (runU zeroU l) (runU_ok zeroU_ok hp).wf w (St.lentV hw) (some ⟨b27, 0, none⟩) c27 ((encU (runU zeroU l)).take (31407 - K)) (byts_take (enc_byts (runU_ok zeroU_ok hp).wf) _) (by rw [List.length_take]; omega) (ns_take (Ns.of (Row.left (r := sp27) (row_own (b := b27) (by repeat (first | exact .head _ | refine .tail _ ?_ | refine List.mem_append_right _ ?_)) w hw))) _) (fun p hp9 => by obtain rfl := Option.some.inj hp9; exact St.ne_at hw 1 0 rfl rfl (by decide)); rw [(rfl : (0:Nat) = 0)] at h9; exact h9)) rfl rfl ?_
      rintro _ _ ⟨_, ⟨rfl, rfl⟩, rfl⟩
      rw [show decE ((encU (runU zeroU l)).take (31407 - K)) = 6 from (decE_len (by rw [List.length_take, (encU_len (runU_ok zeroU_ok hp).wf)]; omega)).symm, show decTo (runU zeroU l) ((encU (runU zeroU l)).take (31407 - K)) = (runU zeroU l) from decTo_no (decE_len (by rw [List.length_take, (encU_len (runU_ok zeroU_ok hp).wf)]; omega)) (by decide)]
      refine l_sure true rfl rfl rfl rfl ?_
      refine l_l rfl rfl rfl ?_
      refine l_l rfl rfl rfl ?_
      refine l_x (x_slc0 rfl) rfl rfl ?_
      rintro _ _ ⟨b44, rfl, rfl⟩
      refine l_l rfl rfl rfl ?_
      refine l_heap (H' := [(b, blk (cU (runU zeroU l)) 60), (b27, blk ((encU (runU zeroU l)).map (Value.int .u8) ++ sp27) 5), (b44, blk [] 5)]) (fun _ h => St.fl [[_], [_, _]] [1, 0] rfl h) ?_
      refine l_x (x_appendE (A := [(b, blk (cU (runU zeroU l)) 60), (b27, blk ((encU (runU zeroU l)).map (Value.int .u8) ++ sp27) 5)]) (G := [(b44, blk [] 5)]) (v := .slice (some ⟨b44, 0, none⟩) 0 0) (n := 0) (xs := []) (m := 31408) (T := 5) (s := 1) (by_ := 1) (ys := (encU (runU zeroU l)).map (.int .u8)) rfl rfl rfl rfl (.row b44 0 0 [] [] rfl rfl (by decide) (Nat.le_refl _)) (fun w hw => .row _ _ _ _ _ (by rw [List.length_map, (encU_len (runU_ok zeroU_ok hp).wf)]) (Row.left (r := sp27) (row_own (b := b27) (by repeat (first | exact .head _ | refine .tail _ ?_ | refine List.mem_append_right _ ?_)) w hw))) (ones_int _ _) (by decide) (by decide)) rfl rfl ?_
      rintro v46 _ ⟨G46, hV46, _, rfl⟩
      refine l_l rfl rfl rfl ?_
      refine l_x (x_slc rfl rfl rfl rfl rfl rfl) rfl rfl ?_
      rintro _ _ ⟨b48, rfl, rfl⟩
      refine l_heap (H' := [(b48, blk [.int .u8 x] 5), (b, blk (cU (runU zeroU l)) 60), (b27, blk ((encU (runU zeroU l)).map (Value.int .u8) ++ sp27) 5)] ++ G46) (fun _ h => St.fl [[_], G46, [_, _]] [0, 2, 1] rfl h) ?_
      refine l_x (x_appendE (A := [(b48, blk [.int .u8 x] 5), (b, blk (cU (runU zeroU l)) 60), (b27, blk ((encU (runU zeroU l)).map (Value.int .u8) ++ sp27) 5)]) (G := G46) (v := v46) (n := 0 + 31408) (xs := [] ++ (encU (runU zeroU l)).map (.int .u8)) (m := 1) (T := 5) (s := 1) (by_ := 1) (ys := [.int .u8 x]) rfl rfl rfl rfl hV46 (fun w hw => .row _ _ _ _ _ rfl (row_own (.head _) w hw)) rfl (by decide) (by decide)) rfl rfl ?_
      rintro v49 _ ⟨G49, hV49, _, rfl⟩
      have hls : ((encU (runU zeroU l)) ++ [x]).length = 31409 := by rw [List.length_append, (encU_len (runU_ok zeroU_ok hp).wf)]; rfl
      obtain ⟨b49, c49, sp49, rfl, hc49, hr49, rfl⟩ := vec_n (hV49.as (n' := 31409) (xs' := ((encU (runU zeroU l)) ++ [x]).map (.int .u8)) rfl (by rw [List.map_append]; rfl)) hls (by decide)
      refine l_heap (H' := [(b, blk (cU (runU zeroU l)) 60), (b49, blk (((encU (runU zeroU l)) ++ [x]).map (Value.int .u8) ++ sp49) 5), (b27, blk ((encU (runU zeroU l)).map (Value.int .u8) ++ sp27) 5)]) (fun _ h => St.fl [[_], [_], [_], [_]] [2, 0, 3] rfl h) ?_
      refine l_x (x_callF (A := [(b, _)]) (G := [(b49, blk (((encU (runU zeroU l)) ++ [x]).map (Value.int .u8) ++ sp49) 5), (b27, blk ((encU (runU zeroU l)).map (Value.int .u8) ++ sp27) 5)]) [b] call_27 rfl (by simp) (fun w hw => by have h9 := dec_fn b (runU zeroU l) (runU_ok zeroU_ok hp).wf w (St.lentV hw) (some ⟨b49, 0, none⟩) c49 ((encU (runU zeroU l)) ++ [x]) (byts_snoc (enc_byts (runU_ok zeroU_ok hp).wf) hx) (by rw [hls]; exact hc49) (Ns.of (Row.left (r := sp49) (row_own (b := b49) (by repeat (first | exact .head _ | refine .tail _ ?_ | refine List.mem_append_right _ ?_)) w hw))) (fun p hp9 => by obtain rfl := Option.some.inj hp9; exact St.ne_at hw 1 0 rfl rfl (by decide)); rw [hls] at h9; exact h9)) rfl rfl ?_
      rintro _ _ ⟨_, ⟨rfl, rfl⟩, rfl⟩
      rw [show decE ((encU (runU zeroU l)) ++ [x]) = 6 from (decE_len (by rw [hls]; decide)).symm, show decTo (runU zeroU l) ((encU (runU zeroU l)) ++ [x]) = (runU zeroU l) from decTo_no (decE_len (by rw [hls]; decide)) (by decide)]
      refine l_sure true rfl rfl rfl rfl ?_
      refine l_l rfl rfl rfl ?_
      refine l_l rfl rfl rfl ?_
      refine l_l rfl rfl rfl ?_
      refine l_x (x_call call_25 rfl (fun w hw => enc_fn b (runU zeroU l) (runU_ok zeroU_ok hp).wf w (row_own (by repeat (first | exact .head _ | refine .tail _ ?_ | refine List.mem_append_right _ ?_)) w hw))) rfl rfl ?_
      rintro v55 _ ⟨G55, hV55, rfl⟩
      obtain ⟨b55, c55, sp55, rfl, hc55, hr55, rfl⟩ := vec_n hV55 (encU_len (runU_ok zeroU_ok hp).wf) (by decide)
      refine l_l rfl rfl rfl ?_
      refine l_x (x_val call_24 rfl (fun w hw => (by have h9 := same_fn (some ⟨b55, 0, none⟩) (some ⟨b27, 0, none⟩) c55 c27 (encU (runU zeroU l)) (by rw [(encU_len (runU_ok zeroU_ok hp).wf)]; decide) w (Ns.of (Row.left (r := sp55) (row_own (b := b55) (by repeat (first | exact .head _ | refine .tail _ ?_ | refine List.mem_append_right _ ?_)) w hw))) (Ns.of (Row.left (r := sp27) (row_own (b := b27) (by repeat (first | exact .head _ | refine .tail _ ?_ | refine List.mem_append_right _ ?_)) w hw))); rw [(encU_len (runU_ok zeroU_ok hp).wf)] at h9; exact h9))) rfl rfl ?_
      rintro _ _ ⟨rfl, rfl⟩
      refine l_l rfl rfl rfl ?_
      refine l_l rfl rfl rfl ?_
      refine l_nil ?_
      refine c_ret ?_
      exact l_end (fun _ _ => rets_v rfl) (List.nil_sublist _) ⟨rfl, rfl⟩
    · have h2n := by first | exact of_decide_eq_true h2 | exact of_decide_eq_false h2 | exact eq_of_beq h2 | exact ne_of_beq_false h2 | exact bne_t h2 | exact bne_f h2 | exact h2
      refine c_skip ?_
      refine c_seq ?_
      refine c_region ?_
      refine l_x (x_slc0 rfl) rfl rfl ?_
      rintro _ _ ⟨b59, rfl, rfl⟩
      refine l_l rfl rfl rfl ?_
      refine l_heap (H' := [(b27, blk ((encU (runU zeroU l)).map (Value.int .u8) ++ sp27) 5), (b, blk (cU (runU zeroU l)) 60), (b59, blk [] 5)]) (fun _ h => St.fl [[_], [_, _]] [1, 0] rfl h) ?_
      refine l_x (x_appendE (A := [(b27, blk ((encU (runU zeroU l)).map (Value.int .u8) ++ sp27) 5), (b, blk (cU (runU zeroU l)) 60)]) (G := [(b59, blk [] 5)]) (v := .slice (some ⟨b59, 0, none⟩) 0 0) (n := 0) (xs := []) (m := 31408) (T := 5) (s := 1) (by_ := 1) (ys := (encU (runU zeroU l)).map (.int .u8)) rfl rfl rfl rfl (.row b59 0 0 [] [] rfl rfl (by decide) (Nat.le_refl _)) (fun w hw => .row _ _ _ _ _ (by rw [List.length_map, (encU_len (runU_ok zeroU_ok hp).wf)]) (Row.left (r := sp27) (row_own (b := b27) (by repeat (first | exact .head _ | refine .tail _ ?_ | refine List.mem_append_right _ ?_)) w hw))) (ones_int _ _) (by decide) (by decide)) rfl rfl ?_
      rintro v61 _ ⟨G61, hV61, _, rfl⟩
      obtain ⟨b61, c61, sp61, rfl, hc61, hr61, rfl⟩ := vec_n (hV61.as (n' := 31408) (xs' := (encU (runU zeroU l)).map (.int .u8)) rfl rfl) (encU_len (runU_ok zeroU_ok hp).wf) (by decide)
      refine l_l rfl rfl rfl ?_
      refine l_nil ?_
      refine c_seq ?_
      refine c_region ?_
      refine l_l rfl rfl rfl ?_
      refine l_as (l_conv rfl rfl rfl) rfl rfl (by first | exact as_i64 (by omega) (by omega) | rfl) ?_
      refine l_l rfl rfl rfl ?_
      refine l_l (by first | exact light_len rfl rfl | exact light_lens rfl rfl | rfl) rfl rfl ?_
      refine l_as (v := (.int .i64 ((q.toNat % 31408 : Nat) : Int))) (rem_pos rfl rfl (by decide)) rfl rfl (congrArg _ ((Int.tmod_eq_emod_of_nonneg (by omega)).trans (by omega))) ?_
      refine l_l rfl rfl rfl ?_
      refine l_nil ?_
      refine c_cut (σ := Nat) [12, 67, 68, 69, 70, 71, 72, 73, 74] (fun k => [(12, .int .i64 (k : Int))]) (fun _ => [(b61, blk ((encU (runU zeroU l)).map (Value.int .u8) ++ sp61) 5), (b27, blk ((encU (runU zeroU l)).map (Value.int .u8) ++ sp27) 5), (b, blk (cU (runU zeroU l)) 60)]) (fun k => k < 31408) ?_ ?_
      · refine c_seq ?_
        refine c_region ?_
        refine l_l rfl rfl rfl ?_
        refine l_as (l_and rfl rfl) rfl rfl (by first | exact as_mask 1 2 (by decide) rfl (by omega) (show _ < (65536 : Int) by omega) (show _ < (65536 : Int) by decide) | rfl) ?_
        refine l_l rfl rfl rfl ?_
        refine l_nil ?_
        refine c_cond rfl (fun h3 => ?_) (fun h3 => ?_)
        · have h3n := by first | exact of_decide_eq_true h3 | exact of_decide_eq_false h3 | exact eq_of_beq h3 | exact ne_of_beq_false h3 | exact bne_t h3 | exact bne_f h3 | exact h3
          refine c_region ?_
          refine l_l rfl rfl rfl ?_
          refine l_as (shr_pos rfl rfl (by decide)) rfl rfl (as_shr 2 (by decide) (by decide)) ?_
          refine l_as (l_conv rfl rfl rfl) rfl rfl (by first | exact as_i64 (by omega) (by omega) | rfl) ?_
          refine l_as (rem_pos rfl rfl (by decide)) rfl rfl (by first | exact as_rem (by omega) | rfl) ?_
          refine l_as (l_add rfl rfl) rfl rfl (by first | exact as_i64 (by omega) (by omega) | rfl) ?_
          refine l_l rfl rfl rfl ?_
          refine l_nil ?_
          exact ⟨(8352 + q / 2 % 16).toNat, by omega, .cons (congrArg (Value.int .i64) (by omega)) .nil, (by repeat (first | exact Agree.refl _ _ | exact Agree.mix rfl | refine Agree.put rfl ?_ | refine Agree.keep rfl ?_)), fun _ h => h⟩
        · have h3n := by first | exact of_decide_eq_true h3 | exact of_decide_eq_false h3 | exact eq_of_beq h3 | exact ne_of_beq_false h3 | exact bne_t h3 | exact bne_f h3 | exact h3
          refine c_skip ?_
          exact ⟨q.toNat % 31408, by omega, .cons rfl .nil, (by repeat (first | exact Agree.refl _ _ | exact Agree.mix rfl | refine Agree.put rfl ?_ | refine Agree.keep rfl ?_)), fun _ h => h⟩
      · rintro k yc9 hk
        refine c_seq ?_
        refine c_region ?_
        refine l_l rfl rfl rfl ?_
        refine l_l rfl rfl rfl ?_
        refine l_l rfl rfl rfl ?_
        refine l_l (idx_slice1 k rfl rfl rfl rfl (by omega)) rfl rfl ?_
        refine l_x (x_storeTo (l' := ((encU (runU zeroU l)).set k x).map (.int .u8) ++ sp61) 0 rfl rfl rfl rfl rfl rfl (by rw [List.length_append, List.length_map, (encU_len (runU_ok zeroU_ok hp).wf)]; simp only [List.length_cons, List.length_nil]; omega) (putL_intA .u8 (by rw [(encU_len (runU_ok zeroU_ok hp).wf)]; exact hk) x sp61)) rfl rfl ?_
        rintro _ _ ⟨rfl, rfl⟩
        simp only [List.cons_append, List.nil_append, List.set_cons_zero, List.set_cons_succ]
        refine l_nil ?_
        refine c_seq ?_
        refine c_region ?_
        refine l_l rfl rfl rfl ?_
        refine l_nil ?_
        refine c_cut (σ := Unit) [13, 79, 80, 81, 82, 83, 84, 85, 86, 87, 88, 89, 90, 91, 92, 93, 94, 95, 96, 97, 98, 99, 100, 101, 102, 103, 104] (fun _ => [(13, .bool (rightP k x))]) (fun _ => [(b61, blk (((encU (runU zeroU l)).set k x).map (Value.int .u8) ++ sp61) 5), (b27, blk ((encU (runU zeroU l)).map (Value.int .u8) ++ sp27) 5), (b, blk (cU (runU zeroU l)) 60)]) (fun _ => True) ?_ ?_
        · refine c_block ?_
          refine c_seq ?_
          refine c_region ?_
          refine l_l rfl rfl rfl ?_
          refine l_l rfl rfl rfl ?_
          refine l_l rfl rfl rfl ?_
          refine l_nil ?_
          refine c_cond rfl (fun h4 => ?_) (fun h4 => ?_)
          · have h4n := by first | exact of_decide_eq_true h4 | exact of_decide_eq_false h4 | exact eq_of_beq h4 | exact ne_of_beq_false h4 | exact bne_t h4 | exact bne_f h4 | exact h4
            refine c_region ?_
            refine l_l rfl rfl rfl ?_
            refine l_as (l_andn rfl rfl) rfl rfl rfl ?_
            refine l_l rfl rfl rfl ?_
            refine l_l rfl rfl rfl ?_
            refine l_nil ?_
            exact ⟨(), trivial, .cons (congrArg Value.bool (by show _ = rightP k x; unfold rightP; rw [if_pos (by omega)])) .nil, (by repeat (first | exact Agree.refl _ _ | exact Agree.mix rfl | refine Agree.put rfl ?_ | refine Agree.keep rfl ?_)), fun _ h => h⟩
          · have h4n := by first | exact of_decide_eq_true h4 | exact of_decide_eq_false h4 | exact eq_of_beq h4 | exact ne_of_beq_false h4 | exact bne_t h4 | exact bne_f h4 | exact h4
            refine c_seq ?_
            refine c_region ?_
            refine l_l rfl rfl rfl ?_
            refine l_l rfl rfl rfl ?_
            refine l_l rfl rfl rfl ?_
            refine l_nil ?_
            refine c_cond rfl (fun h5 => ?_) (fun h5 => ?_)
            · have h5n := by first | exact of_decide_eq_true h5 | exact of_decide_eq_false h5 | exact eq_of_beq h5 | exact ne_of_beq_false h5 | exact bne_t h5 | exact bne_f h5 | exact h5
              refine c_region ?_
              refine l_l rfl rfl rfl ?_
              refine l_l rfl rfl rfl ?_
              refine l_l rfl rfl rfl ?_
              refine l_nil ?_
              exact ⟨(), trivial, .cons (congrArg Value.bool (by show _ = rightP k x; unfold rightP; rw [if_neg (by omega), if_pos (by omega)])) .nil, (by repeat (first | exact Agree.refl _ _ | exact Agree.mix rfl | refine Agree.put rfl ?_ | refine Agree.keep rfl ?_)), fun _ h => h⟩
            · have h5n := by first | exact of_decide_eq_true h5 | exact of_decide_eq_false h5 | exact eq_of_beq h5 | exact ne_of_beq_false h5 | exact bne_t h5 | exact bne_f h5 | exact h5
              refine c_seq ?_
              refine c_region ?_
              refine l_l rfl rfl rfl ?_
              refine l_l rfl rfl rfl ?_
              refine l_l rfl rfl rfl ?_
              refine l_nil ?_
              refine c_cond rfl (fun h6 => ?_) (fun h6 => ?_)
              · have h6n := by first | exact of_decide_eq_true h6 | exact of_decide_eq_false h6 | exact eq_of_beq h6 | exact ne_of_beq_false h6 | exact bne_t h6 | exact bne_f h6 | exact h6
                refine c_region ?_
                refine l_l rfl rfl rfl ?_
                refine l_l rfl rfl rfl ?_
                refine l_l rfl rfl rfl ?_
                refine l_nil ?_
                exact ⟨(), trivial, .cons (congrArg Value.bool (by show _ = rightP k x; unfold rightP; rw [if_neg (by omega), if_neg (by omega), if_pos (by omega)])) .nil, (by repeat (first | exact Agree.refl _ _ | exact Agree.mix rfl | refine Agree.put rfl ?_ | refine Agree.keep rfl ?_)), fun _ h => h⟩
              · have h6n := by first | exact of_decide_eq_true h6 | exact of_decide_eq_false h6 | exact eq_of_beq h6 | exact ne_of_beq_false h6 | exact bne_t h6 | exact bne_f h6 | exact h6
                refine c_seq ?_
                refine c_region ?_
                refine l_l rfl rfl rfl ?_
                refine l_l rfl rfl rfl ?_
                refine l_l rfl rfl rfl ?_
                refine l_nil ?_
                refine c_cond rfl (fun h7 => ?_) (fun h7 => ?_)
                · have h7n := by first | exact of_decide_eq_true h7 | exact of_decide_eq_false h7 | exact eq_of_beq h7 | exact ne_of_beq_false h7 | exact bne_t h7 | exact bne_f h7 | exact h7
                  refine c_region ?_
                  refine l_l rfl rfl rfl ?_
                  refine l_l rfl rfl rfl ?_
                  refine l_l rfl rfl rfl ?_
                  refine l_nil ?_
                  exact ⟨(), trivial, .cons (congrArg Value.bool (by show _ = rightP k x; unfold rightP; rw [if_neg (by omega), if_neg (by omega), if_neg (by omega), if_pos (by omega)])) .nil, (by repeat (first | exact Agree.refl _ _ | exact Agree.mix rfl | refine Agree.put rfl ?_ | refine Agree.keep rfl ?_)), fun _ h => h⟩
                · have h7n := by first | exact of_decide_eq_true h7 | exact of_decide_eq_false h7 | exact eq_of_beq h7 | exact ne_of_beq_false h7 | exact bne_t h7 | exact bne_f h7 | exact h7
                  refine c_seq ?_
                  refine c_region ?_
                  refine l_l rfl rfl rfl ?_
                  refine l_l rfl rfl rfl ?_
                  refine l_l rfl rfl rfl ?_
                  refine l_nil ?_
                  refine c_cond rfl (fun h8 => ?_) (fun h8 => ?_)
                  · have h8n := by first | exact of_decide_eq_true h8 | exact of_decide_eq_false h8 | exact eq_of_beq h8 | exact ne_of_beq_false h8 | exact bne_t h8 | exact bne_f h8 | exact h8
                    refine c_region ?_
                    refine l_l rfl rfl rfl ?_
                    refine l_l rfl rfl rfl ?_
                    refine l_l rfl rfl rfl ?_
                    refine l_nil ?_
                    exact ⟨(), trivial, .cons (congrArg Value.bool (by show _ = rightP k x; unfold rightP; rw [if_neg (by omega), if_neg (by omega), if_neg (by omega), if_neg (by omega), if_pos (by omega)])) .nil, (by repeat (first | exact Agree.refl _ _ | exact Agree.mix rfl | refine Agree.put rfl ?_ | refine Agree.keep rfl ?_)), fun _ h => h⟩
                  · have h8n := by first | exact of_decide_eq_true h8 | exact of_decide_eq_false h8 | exact eq_of_beq h8 | exact ne_of_beq_false h8 | exact bne_t h8 | exact bne_f h8 | exact h8
                    refine c_skip ?_
                    exact ⟨(), trivial, .cons (congrArg Value.bool (by show _ = rightP k x; unfold rightP; rw [if_neg (by omega), if_neg (by omega), if_neg (by omega), if_neg (by omega), if_neg (by omega)])) .nil, (by repeat (first | exact Agree.refl _ _ | exact Agree.mix rfl | refine Agree.put rfl ?_ | refine Agree.keep rfl ?_)), fun _ h => h⟩
        · rintro _ yc13 _
          refine c_seq ?_
          have hlk : ((encU (runU zeroU l)).set k x).length = 31408 := by rw [List.length_set]; exact (encU_len (runU_ok zeroU_ok hp).wf)
          have hbk : Byts ((encU (runU zeroU l)).set k x) := byts_set (enc_byts (runU_ok zeroU_ok hp).wf) k hx
          refine c_region ?_
          refine l_x (x_call call_11 rfl (fun w hw => new_fn w)) rfl rfl ?_
          rintro _ _ ⟨G105, ⟨b2, rfl, rfl⟩, rfl⟩
          refine l_l rfl rfl rfl ?_
          refine l_nil ?_
          refine c_seq ?_
          refine c_region ?_
          refine l_l rfl rfl rfl ?_
          refine l_l rfl rfl rfl ?_
          refine l_x (x_callF (A := [(b2, _)]) (G := [(b61, blk (((encU (runU zeroU l)).set k x).map (Value.int .u8) ++ sp61) 5), (b27, blk ((encU (runU zeroU l)).map (Value.int .u8) ++ sp27) 5), (b, blk (cU (runU zeroU l)) 60)]) [b2] call_27 rfl (by simp) (fun w hw => by have h9 := dec_fn b2 zeroU zeroU_wf w (St.lentV hw) (some ⟨b61, 0, none⟩) c61 ((encU (runU zeroU l)).set k x) hbk (by rw [hlk]; exact hc61) (Ns.of (Row.left (r := sp61) (row_own (by repeat (first | exact .head _ | refine .tail _ ?_ | refine List.mem_append_right _ ?_)) w hw))) (fun p hp9 => by obtain rfl := Option.some.inj hp9; exact St.ne_at hw 1 0 rfl rfl (by decide)); rw [hlk] at h9; exact h9)) rfl rfl ?_
          rintro _ _ ⟨_, ⟨rfl, rfl⟩, rfl⟩
          refine l_l rfl rfl rfl ?_
          refine l_nil ?_
          refine c_seq ?_
          refine c_seq ?_
          refine c_region ?_
          refine l_l rfl rfl rfl ?_
          refine l_l rfl rfl rfl ?_
          refine l_nil ?_
          refine c_cond rfl (fun h9 => ?_) (fun h9 => ?_)
          · have h9n := by first | exact of_decide_eq_true h9 | exact of_decide_eq_false h9 | exact eq_of_beq h9 | exact ne_of_beq_false h9 | exact bne_t h9 | exact bne_f h9 | exact h9
            refine c_seq ?_
            have hr9 : rightP k x = false := by simpa using h9
            have hok9 : okE ((encU (runU zeroU l)).set k x) = false := (ok_set (encU_len (runU_ok zeroU_ok hp).wf) (ok_enc (runU_good zeroU_good hp)) hk x).trans hr9
            rw [show decE ((encU (runU zeroU l)).set k x) = 5 from (decE_no hlk hok9).symm, show decTo zeroU ((encU (runU zeroU l)).set k x) = zeroU from decTo_no (decE_no hlk hok9) (by decide)]
            refine c_region ?_
            refine l_l rfl rfl rfl ?_
            refine l_sure true rfl rfl rfl rfl ?_
            refine l_l rfl rfl rfl ?_
            refine l_l rfl rfl rfl ?_
            refine l_x (x_call call_25 rfl (fun w hw => enc_fn b2 zeroU zeroU_wf w (row_own (by repeat (first | exact .head _ | refine .tail _ ?_ | refine List.mem_append_right _ ?_)) w hw))) rfl rfl ?_
            rintro v115 _ ⟨G115, hV115, rfl⟩
            obtain ⟨b115, c115, sp115, rfl, hc115, hr115, rfl⟩ := vec_n hV115 (encU_len zeroU_wf) (by decide)
            refine l_x (x_call call_11 rfl (fun w hw => new_fn w)) rfl rfl ?_
            rintro _ _ ⟨G116, ⟨b3, rfl, rfl⟩, rfl⟩
            refine l_x (x_call call_25 rfl (fun w hw => enc_fn b3 zeroU zeroU_wf w (row_own (by repeat (first | exact .head _ | refine .tail _ ?_ | refine List.mem_append_right _ ?_)) w hw))) rfl rfl ?_
            rintro v117 _ ⟨G117, hV117, rfl⟩
            obtain ⟨b117, c117, sp117, rfl, hc117, hr117, rfl⟩ := vec_n hV117 (encU_len zeroU_wf) (by decide)
            refine l_x (x_val call_24 rfl (fun w hw => (by have h9 := same_fn (some ⟨b115, 0, none⟩) (some ⟨b117, 0, none⟩) c115 c117 (encU zeroU) (by rw [encU_len zeroU_wf]; decide) w (Ns.of (Row.left (r := sp115) (row_own (b := b115) (by repeat (first | exact .head _ | refine .tail _ ?_ | refine List.mem_append_right _ ?_)) w hw))) (Ns.of (Row.left (r := sp117) (row_own (b := b117) (by repeat (first | exact .head _ | refine .tail _ ?_ | refine List.mem_append_right _ ?_)) w hw))); rw [encU_len zeroU_wf] at h9; exact h9))) rfl rfl ?_
            rintro _ _ ⟨rfl, rfl⟩
            refine l_l rfl rfl rfl ?_
            refine l_l rfl rfl rfl ?_
            refine l_nil ?_
            refine c_ret ?_
            exact l_end (fun _ _ => rets_v rfl) (List.nil_sublist _) ⟨rfl, rfl⟩
          · have h9n := by first | exact of_decide_eq_true h9 | exact of_decide_eq_false h9 | exact eq_of_beq h9 | exact ne_of_beq_false h9 | exact bne_t h9 | exact bne_f h9 | exact h9
            refine c_skip ?_
            refine c_seq ?_
            have hr9 : rightP k x = true := by simpa using h9
            have hok9 : okE ((encU (runU zeroU l)).set k x) = true := (ok_set (encU_len (runU_ok zeroU_ok hp).wf) (ok_enc (runU_good zeroU_good hp)) hk x).trans hr9
            rw [show decE ((encU (runU zeroU l)).set k x) = 0 from (decE_yes hlk hok9).symm, show decTo zeroU ((encU (runU zeroU l)).set k x) = decU ((encU (runU zeroU l)).set k x) from decTo_0 (decE_yes hlk hok9)]
            refine c_region ?_
            refine l_l rfl rfl rfl ?_
            refine l_sure true rfl rfl rfl rfl ?_
            refine l_l rfl rfl rfl ?_
            refine l_l rfl rfl rfl ?_
            refine l_x (x_call call_25 rfl (fun w hw => enc_fn b2 (decU ((encU (runU zeroU l)).set k x)) (decU_wf hlk hbk hok9) w (row_own (by repeat (first | exact .head _ | refine .tail _ ?_ | refine List.mem_append_right _ ?_)) w hw))) rfl rfl ?_
            rintro v124 _ ⟨G124, hV124, rfl⟩
            rw [enc_dec hlk hbk hok9] at hV124
            obtain ⟨b124, c124, sp124, rfl, hc124, hr124, rfl⟩ := vec_n hV124 hlk (by decide)
            refine l_l rfl rfl rfl ?_
            refine l_x (x_val call_24 rfl (fun w hw => (by have h9 := same_fn (some ⟨b124, 0, none⟩) (some ⟨b61, 0, none⟩) c124 c61 ((encU (runU zeroU l)).set k x) (by rw [hlk]; decide) w (Ns.of (Row.left (r := sp124) (row_own (b := b124) (by repeat (first | exact .head _ | refine .tail _ ?_ | refine List.mem_append_right _ ?_)) w hw))) (Ns.of (Row.left (r := sp61) (row_own (b := b61) (by repeat (first | exact .head _ | refine .tail _ ?_ | refine List.mem_append_right _ ?_)) w hw))); rw [hlk] at h9; exact h9))) rfl rfl ?_
            rintro _ _ ⟨rfl, rfl⟩
            refine l_l rfl rfl rfl ?_
            refine l_l rfl rfl rfl ?_
            refine l_nil ?_
            refine c_ret ?_
            exact l_end (fun _ _ => rets_v rfl) (List.nil_sublist _) ⟨rfl, rfl⟩

end Go.Proofs.Ytjceoaomkbabmaa
namespace Go.Proofs.Ytjceoaomkbabmaa
open Go Go.VV

def shutS (j k : Nat) : PU := askU { zeroU with V := zeroU.V.set j 1, O := zeroU.O.set k 2, R := [128, 0, 0, 0, 0, 0, 0, 0, 0, 0, 0, 0] }
theorem bor_top {x : Int} (h : 0 ≤ x ∧ x < 8192) : bor .u16 32768 x = 32768 + x := by
  rw [bor_nat (by decide) (by decide) h.1 (by show _ < (65536 : Int); omega)]
  have h1 : (32768 : Int).toNat = 2 ^ 15 * 1 := rfl
  rw [h1, ← Nat.two_pow_add_eq_or_of_lt (by omega)]
  omega
theorem flip_byte {x : Int} (hx : 0 ≤ x ∧ x < 256) : 0 ≤ bxor .u8 x 1 ∧ bxor .u8 x 1 < 256 :=
  byte_all (p := fun x => 0 ≤ bxor .u8 x 1 ∧ bxor .u8 x 1 < 256) (by decide +kernel) hx.1 hx.2
theorem getD_set {l : List Int} {j : Nat} (h : j < l.length) (x : Int) : (l.set j x).getD j 0 = x := by
  rw [List.getD_eq_getElem?_getD, List.getElem?_set_self h]; rfl
section
variable {j k : Nat} (hj : j < 8192) (hk : k < 160)
include hj hk
theorem shut3 : writeU (writeU (writeU zeroU (32768 + j) 1) (65024 + k) 2) 65344 128 = shutS j k := by
  rw [write_V 1 hj, if_pos (show modeU zeroU < 3 by decide), write_O 2 hk, if_pos (show modeU ({ zeroU with V := zeroU.V.set j 1 } : PU) < 2 from (by decide : modeU zeroU < 2))]
  show askU (offU (litU zeroU) { zeroU with V := zeroU.V.set j 1, O := zeroU.O.set k 2, R := zeroU.R.set 0 128 }) = _
  have h0 : litU zeroU = false := rfl
  rw [h0, off_no (.inl rfl)]; rfl
theorem shutS_ok : (shutS j k).Ok := by
  rw [← shut3 hj hk]
  exact ((zeroU_ok.write (a := 32768 + j) (x := 1) (by decide)).write (a := 65024 + k) (x := 2) (by decide)).write (a := 65344) (x := 128) (by decide)
omit hk in
theorem shut_V1 (n : Nat) : (tickN n (shutS j k)).V.getD j 0 = 1 := by
  rw [(tickN_keep _ n).1]
  show (zeroU.V.set j 1).getD j 0 = 1
  exact getD_set (by rw [zeroU_wf.lV]; exact hj) 1
omit hj in
theorem shut_O2 (n : Nat) : (tickN n (shutS j k)).O.getD k 0 = 2 := by
  rw [(tickN_keep _ n).2.1]
  show (zeroU.O.set k 2).getD k 0 = 2
  exact getD_set (by rw [zeroU_wf.lO]; exact hk) 2
variable {s : PU} (x : Int)
theorem w2_3 (h : modeU s = 3) : writeU (writeU s (32768 + j) x) (65024 + k) x = s := by
  rw [write_V x hj, if_neg (by omega), write_O x hk, if_neg (by omega)]
theorem w2_2 (h : modeU s = 2) : writeU (writeU s (32768 + j) x) (65024 + k) x = { s with V := s.V.set j x } := by
  have h2 : modeU ({ s with V := s.V.set j x } : PU) = modeU s := rfl
  rw [write_V x hj, if_pos (by omega), write_O x hk, if_neg (by omega)]
theorem w2_0 (h : modeU s < 2) : writeU (writeU s (32768 + j) x) (65024 + k) x = { s with V := s.V.set j x, O := s.O.set k x } := by
  have h2 : modeU ({ s with V := s.V.set j x } : PU) = modeU s := rfl
  rw [write_V x hj, if_pos (by omega), write_O x hk, if_pos (by omega)]
omit hj in
theorem sprite_k (s : PU) : spriteU s (k : Int) x = { s with O := s.O.set k x } := by
  unfold spriteU
  rw [if_pos (by omega), Int.toNat_natCast]
end
end Go.Proofs.Ytjceoaomkbabmaa
namespace Go.Proofs.Ytjceoaomkbabmaa
open Go Go.VV

theorem low_byte {x : Int} (hx : 0 ≤ x ∧ x < 256) : 0 ≤ band .u8 x 127 ∧ band .u8 x 127 < 128 :=
  byte_all (p := fun x => 0 ≤ band .u8 x 127 ∧ band .u8 x 127 < 128) (by decide +kernel) hx.1 hx.2
section
variable {u : PU} {y : Int}
theorem num_ctl : numU 65344 = 0 := by decide
theorem put_lit (h : u.Wf) (hy : 0 ≤ y ∧ y < 128) : litU (putU u 0 y) = false := by
  have h0 : (setU u 0 y).R = u.R.set 0 y := by rw [set_n (by decide) (by decide)]; rfl
  have h1 : litU (setU u 0 y) = false := by
    unfold litU PU.r
    rw [h0, getD_set (by rw [h.lR]; decide)]
    exact decide_eq_false (by omega)
  unfold putU offU
  split
  · exact h1
  · exact h1
theorem sig_off (h : litU u = false) : sigU u = false := by unfold sigU; rw [h]; rfl
theorem ask_off (h : litU u = false) : askV u = 0 := by unfold askV; rw [sig_off h]; rfl
theorem mode_off (h : litU u = false) : modeU u = 0 := by unfold modeU; rw [h]; rfl
theorem tick_off (h : litU u = false) : tickU u = u := by unfold tickU; rw [h]; rfl
theorem tickV_off (h : litU u = false) : tickV u = 0 := by unfold tickV; rw [h]; rfl
theorem offW (u : PU) (y : Int) : writeU u 65344 y = askU (putU u 0 y) := write_R (a := 65344) y (by omega) (by decide)
theorem off_v (h : u.Wf) (hy : 0 ≤ y ∧ y < 128) : writeV u 65344 y = 0 := (wv_R (a := 65344) y (by omega) (by decide)).trans (ask_off (put_lit h hy))
theorem off_lit (h : u.Wf) (hy : 0 ≤ y ∧ y < 128) : litU (writeU u 65344 y) = false := by rw [offW]; exact put_lit h hy
theorem off_P (u : PU) (y : Int) : (writeU u 65344 y).P = u.P := by
  rw [offW]
  show (putU u 0 y).P = u.P
  unfold putU offU
  split <;> exact (set_rest u 0 y).1
end
/-- Switched off, and two bytes written. -/
def offS (u : PU) (y : Int) : PU := { writeU u 65344 y with V := (writeU u 65344 y).V.set 291 7, O := (writeU u 65344 y).O.set 18 9 }
section
variable {u : PU} (hg : u.Good) {y : Int} (hy : 0 ≤ y ∧ y < 128)
include hg hy
theorem off_good : (writeU u 65344 y).Good := hg.write ⟨hy.1, by omega⟩
theorem off_1 : writeU (writeU u 65344 y) 33059 7 = { writeU u 65344 y with V := (writeU u 65344 y).V.set 291 7 } := by
  have := write_V (u := writeU u 65344 y) 7 (j := 291) (by decide)
  rw [if_pos (by rw [mode_off (off_lit hg.ok.wf hy)]; decide)] at this
  exact this
theorem off_2 : writeU { writeU u 65344 y with V := (writeU u 65344 y).V.set 291 7 } 65042 9 = offS u y := by
  have := write_O (u := { writeU u 65344 y with V := (writeU u 65344 y).V.set 291 7 }) 9 (j := 18) (by decide)
  rw [if_pos (by rw [mode_off (u := { writeU u 65344 y with V := (writeU u 65344 y).V.set 291 7 }) (off_lit hg.ok.wf hy)]; decide)] at this
  exact this
theorem off_1ok : ({ writeU u 65344 y with V := (writeU u 65344 y).V.set 291 7 } : PU).Ok := by rw [← off_1 hg hy]; exact (off_good hg hy).ok.write (by decide)
theorem off_sgood : (offS u y).Good := by rw [← off_2 hg hy, ← off_1 hg hy]; exact ((off_good hg hy).write (by decide)).write (by decide)
theorem off_line : (offS u y).line = 0 := ((off_good hg hy).off (off_lit hg.ok.wf hy)).1
theorem off_dot : (offS u y).dot = 0 := ((off_good hg hy).off (off_lit hg.ok.wf hy)).2
theorem off_mode : modeU (offS u y) = 0 := mode_off (u := offS u y) (off_lit hg.ok.wf hy)
theorem off_rV : readU (offS u y) 33059 = 7 := by
  have h1 : readU (offS u y) 33059 = if 3 ≤ modeU (offS u y) then 255 else peekU (offS u y) (32768 + (291 : Nat)) := read_V (u := offS u y) (j := 291) (by decide)
  rw [h1, off_mode hg hy, if_neg (by decide), peek_V (by decide)]
  exact getD_set (by rw [(off_good hg hy).ok.wf.lV]; decide) 7
theorem off_rO : readU (offS u y) 65042 = 9 := by
  have h1 : readU (offS u y) 65042 = if 2 ≤ modeU (offS u y) then 255 else peekU (offS u y) (65024 + (18 : Nat)) := read_O (u := offS u y) (j := 18) (by decide)
  rw [h1, off_mode hg hy, if_neg (by decide), peek_O (by decide)]
  exact getD_set (by rw [(off_good hg hy).ok.wf.lO]; decide) 9
omit hg hy in
theorem off_row (i : Int) : rowAt (offS u y) i = rowAt u i := by
  unfold rowAt
  rw [show (offS u y).P = u.P from off_P u y]
end
end Go.Proofs.Ytjceoaomkbabmaa
namespace Go.Proofs.Ytjceoaomkbabmaa
open Go Go.VV Go.Proofs
set_option linter.unusedSimpArgs false
set_option linter.unusedVariables false
set_option maxRecDepth 100000
theorem tick_nil (w : World) : Does Try.prog 13 [.pointer none] w [] (fun v H => H = [] ∧ v = .int .u8 0) := by
  refine does_of Try.func13 rfl rfl rfl (St.refl w) ?_
  refine c_seq ?_
  refine c_region ?_
  refine l_l rfl rfl rfl ?_
  refine l_nil ?_
  refine c_seq ?_
  refine c_seq ?_
  refine c_region ?_
  refine l_l rfl rfl rfl ?_
  refine l_l rfl rfl rfl ?_
  refine l_l rfl rfl rfl ?_
  refine l_p rfl rfl ?_
  refine l_p rfl rfl ?_
  refine l_p rfl rfl ?_
  refine l_l rfl rfl rfl ?_
  refine l_nil ?_
  refine c_true rfl ?_
  refine c_seq ?_
  refine c_region ?_
  refine l_l rfl rfl rfl ?_
  refine l_nil ?_
  refine c_ret ?_
  exact l_end0 (fun _ _ => rets_v rfl) ⟨rfl, rfl⟩

theorem read_nil (a : Int) (w : World) : Does Try.prog 17 [.pointer none, .int .u16 a] w [] (fun v H => H = [] ∧ v = .int .u8 0) := by
  refine does_of Try.func17 rfl rfl rfl (St.refl w) ?_
  refine c_seq ?_
  refine c_region ?_
  refine l_l rfl rfl rfl ?_
  refine l_nil ?_
  refine c_seq ?_
  refine c_seq ?_
  refine c_region ?_
  refine l_l rfl rfl rfl ?_
  refine l_l rfl rfl rfl ?_
  refine l_nil ?_
  refine c_true rfl ?_
  refine c_seq ?_
  refine c_region ?_
  refine l_l rfl rfl rfl ?_
  refine l_nil ?_
  refine c_ret ?_
  exact l_end0 (fun _ _ => rets_v rfl) ⟨rfl, rfl⟩

theorem write_nil (a x : Int) (w : World) : Does Try.prog 12 [.pointer none, .int .u16 a, .int .u8 x] w [] (fun v H => H = [] ∧ v = .int .u8 0) := by
  refine does_of Try.func12 rfl rfl rfl (St.refl w) ?_
  refine c_seq ?_
  refine c_region ?_
  refine l_l rfl rfl rfl ?_
  refine l_nil ?_
  refine c_seq ?_
  refine c_seq ?_
  refine c_region ?_
  refine l_l rfl rfl rfl ?_
  refine l_l rfl rfl rfl ?_
  refine l_nil ?_
  refine c_true rfl ?_
  refine c_seq ?_
  refine c_region ?_
  refine l_l rfl rfl rfl ?_
  refine l_nil ?_
  refine c_ret ?_
  exact l_end0 (fun _ _ => rets_v rfl) ⟨rfl, rfl⟩

theorem dec_nil (a : Option Addr) (n c : Nat) (w : World) : Does Try.prog 27 [.pointer none, .slice a n c] w [] (fun v H => H = [] ∧ v = .int .i64 5) := by
  refine does_of Try.func27 rfl rfl rfl (St.refl w) ?_
  refine c_seq ?_
  refine c_region ?_
  refine l_l rfl rfl rfl ?_
  refine l_nil ?_
  refine c_seq ?_
  refine c_block ?_
  refine c_seq ?_
  refine c_region ?_
  refine l_l rfl rfl rfl ?_
  refine l_l rfl rfl rfl ?_
  refine l_l rfl rfl rfl ?_
  refine l_nil ?_
  refine c_true rfl ?_
  refine c_seq ?_
  refine c_region ?_
  refine l_l rfl rfl rfl ?_
  refine l_nil ?_
  refine c_ret ?_
  exact l_end0 (fun _ _ => rets_v rfl) ⟨rfl, rfl⟩

end Go.Proofs.Ytjceoaomkbabmaa
namespace Go.Proofs.Ytjceoaomkbabmaa
open Go Go.VV Go.Proofs
set_option linter.unusedSimpArgs false
set_option linter.unusedVariables false
set_option maxRecDepth 100000
set_option maxHeartbeats 4000000 in
theorem lawOff_fn (w : World) (a : Option Addr) (c : Nat) (l : List OpL) (hp : ∀ o ∈ l, o.Ok w) (hl : l.length ≤ maxLen) (hE : Els w cO a l) (ct cy ln : Int) (hc : 0 ≤ ct ∧ ct < 256) (hcy : 0 ≤ cy ∧ cy < 256) (hln : 0 ≤ ln ∧ ln < 256) : Does Try.prog 9 [.slice a l.length c, .int .u8 ct, .int .u8 cy, .int .u8 ln] w [] (fun v H => H = [] ∧ v = .bool true) := by
  have hml : maxLen = 9223372036854775807 := by decide
  refine does_of Try.func9 rfl rfl rfl (St.refl w) ?_
  refine c_seq ?_
  refine c_region ?_
  refine l_l rfl rfl rfl ?_
  refine l_nil ?_
  refine c_seq ?_
  refine c_seq ?_
  refine c_region ?_
  refine l_x (x_val call_10 rfl (fun w hw => awake_fn w)) rfl rfl ?_
  rintro _ _ ⟨rfl, rfl⟩
  refine l_l rfl rfl rfl ?_
  refine l_l rfl rfl rfl ?_
  refine l_l rfl rfl rfl ?_
  refine l_x (x_call call_20 rfl (fun w hw => few_fn w a c l (fun o ho => (hp o ho).later hw) hl (hE.later0 hw))) rfl rfl ?_
  rintro _ _ ⟨G18, ⟨rfl, f, rfl⟩, rfl⟩
  refine l_l rfl rfl rfl ?_
  refine l_l rfl rfl rfl ?_
  refine l_nil ?_
  refine c_cond rfl (fun h1 => ?_) (fun h1 => ?_)
  · have h1n := by first | exact of_decide_eq_true h1 | exact of_decide_eq_false h1 | exact eq_of_beq h1 | exact ne_of_beq_false h1 | exact bne_t h1 | exact bne_f h1 | exact h1
    refine c_seq ?_
    refine c_region ?_
    refine l_x (x_val call_10 rfl (fun w hw => awake_fn w)) rfl rfl ?_
    rintro _ _ ⟨rfl, rfl⟩
    refine l_l rfl rfl rfl ?_
    refine l_nil ?_
    refine c_ret ?_
    exact l_end (fun _ _ => rets_v rfl) (List.nil_sublist _) ⟨rfl, rfl⟩
  · have h1n := by first | exact of_decide_eq_true h1 | exact of_decide_eq_false h1 | exact eq_of_beq h1 | exact ne_of_beq_false h1 | exact bne_t h1 | exact bne_f h1 | exact h1
    refine c_skip ?_
    refine c_seq ?_
    refine c_region ?_
    refine l_l rfl rfl rfl ?_
    refine l_x (x_call call_28 rfl (fun w hw => play_fn w a c l (fun o ho => (hp o ho).later hw) hl (hE.later0 hw))) rfl rfl ?_
    rintro _ _ ⟨G23, ⟨b, rfl, rfl⟩, rfl⟩
    refine l_l rfl rfl rfl ?_
    refine l_nil ?_
    refine c_seq ?_
    refine c_region ?_
    refine l_l rfl rfl rfl ?_
    refine l_l rfl rfl rfl ?_
    refine l_as (l_conv rfl rfl rfl) rfl rfl (by first | exact as_i64 (by omega) (by omega) | rfl) ?_
    refine l_x (x_val call_23 rfl (fun w hw => row_fn b (runU zeroU l) (runU_ok zeroU_ok hp).wf w (row_own (by repeat (first | exact .head _ | refine .tail _ ?_ | refine List.mem_append_right _ ?_)) w hw) ln)) rfl rfl ?_
    rintro _ _ ⟨rfl, rfl⟩
    refine l_x (x_alloc (l := ((List.replicate 160 (0 : Int)).map (Value.int .u8))) (by kernel_rfl)) rfl rfl ?_
    rintro _ _ ⟨b10, rfl, rfl⟩
    refine l_x (x_storeTo (l' := (rowAt (runU zeroU l) ln).map (Value.int .u8)) 0 rfl rfl rfl (by rw [List.length_map, rowAt_len (runU_ok zeroU_ok hp).wf]; rfl) (ones_int _ _) rfl (by rw [List.length_map, rowAt_len (runU_ok zeroU_ok hp).wf]; decide) (putL_all (by rw [List.length_map, rowAt_len (runU_ok zeroU_ok hp).wf]; rfl))) rfl rfl ?_
    rintro _ _ ⟨rfl, rfl⟩
    simp only [List.cons_append, List.nil_append, List.set_cons_zero, List.set_cons_succ]
    refine l_nil ?_
    refine c_seq ?_
    refine c_region ?_
    refine l_heap (H' := [(b, blk (cU (runU zeroU l)) 60), (b10, blk ((rowAt (runU zeroU l) ln).map (Value.int .u8)) 43)]) (fun _ h => St.fl [[_], [_]] [1, 0] rfl h) ?_
    refine l_l rfl rfl rfl ?_
    refine l_l rfl rfl rfl ?_
    refine l_as (l_and rfl rfl) rfl rfl (by first | exact as_mask 7 128 (by decide) rfl (by omega) (show _ < (256 : Int) by omega) (show _ < (256 : Int) by decide) | rfl) ?_
    refine l_x (x_callF (A := [(b, _)]) (G := [(b10, blk ((rowAt (runU zeroU l) ln).map (Value.int .u8)) 43)]) [b] call_12 rfl (by simp) (fun w hw => write_fn b (runU zeroU l) (runU_ok zeroU_ok hp).wf w (St.lentV hw) 65344 (ct % 128) (by decide) ⟨(show 0 ≤ ct % 128 ∧ ct % 128 < 128 by omega).1, by have := (show 0 ≤ ct % 128 ∧ ct % 128 < 128 by omega).2; omega⟩)) rfl rfl ?_
    rintro _ _ ⟨_, ⟨rfl, rfl⟩, rfl⟩
    rw [off_v (runU_ok zeroU_ok hp).wf (show 0 ≤ ct % 128 ∧ ct % 128 < 128 by omega)]
    refine l_l rfl rfl rfl ?_
    refine l_nil ?_
    refine c_seq ?_
    refine c_region ?_
    refine l_l rfl rfl rfl ?_
    refine l_nil ?_
    refine c_seq ?_
    refine c_seq ?_
    refine c_region ?_
    refine l_l rfl rfl rfl ?_
    refine l_l rfl rfl rfl ?_
    refine l_nil ?_
    refine c_block ?_
    refine c_loop (σ := Nat) [12, 33, 34, 35, 36, 37, 38, 39] (fun i => [(33, .int .u8 i), (12, .int .u8 0)]) (fun _ => [(b, blk (cU (writeU (runU zeroU l) 65344 (ct % 128))) 60), (b10, blk ((rowAt (runU zeroU l) ln).map (Value.int .u8)) 43)]) (fun i => i ≤ cy.toNat) (fun i => cy.toNat - i) 0 ?_ ?_ ?_ ?_
    · exact Nat.zero_le _
    · exact .cons rfl (.cons rfl .nil)
    · exact fun _ h => h
    · rintro i y8 hi
      refine c_seq ?_
      refine c_region ?_
      refine l_l rfl rfl rfl ?_
      refine l_nil ?_
      refine c_seq ?_
      refine c_cond rfl (fun h2 => ?_) (fun h2 => ?_)
      · have h2n := by first | exact of_decide_eq_true h2 | exact of_decide_eq_false h2 | exact eq_of_beq h2 | exact ne_of_beq_false h2 | exact bne_t h2 | exact bne_f h2 | exact h2
        refine c_skip ?_
        refine c_seq ?_
        refine c_block ?_
        refine c_region ?_
        refine l_l rfl rfl rfl ?_
        refine l_l rfl rfl rfl ?_
        refine l_x (x_callF (A := [(b, _)]) (G := [(b10, blk ((rowAt (runU zeroU l) ln).map (Value.int .u8)) 43)]) [b] call_13 rfl (by simp) (fun w hw => tick_fn b (writeU (runU zeroU l) 65344 (ct % 128)) (off_good (runU_good zeroU_good hp) (show 0 ≤ ct % 128 ∧ ct % 128 < 128 by omega)).ok w (St.lentV hw))) rfl rfl ?_
        rintro _ _ ⟨_, ⟨rfl, rfl⟩, rfl⟩
        rw [tick_off (off_lit (runU_ok zeroU_ok hp).wf (show 0 ≤ ct % 128 ∧ ct % 128 < 128 by omega)), tickV_off (off_lit (runU_ok zeroU_ok hp).wf (show 0 ≤ ct % 128 ∧ ct % 128 < 128 by omega))]
        refine l_as (v := (.int .u8 0)) (l_or rfl rfl) rfl rfl (congrArg _ (by decide)) ?_
        refine l_l rfl rfl rfl ?_
        refine l_nil ?_
        refine c_region ?_
        refine l_as (l_add rfl rfl) rfl rfl (by first | exact as_u8 (by omega) (by omega) | exact as_u8m _) ?_
        refine l_l rfl rfl rfl ?_
        refine l_nil ?_
        exact ⟨i + 1, by omega, by omega, .cons rfl (.cons rfl .nil), (by repeat (first | exact Agree.refl _ _ | exact Agree.mix rfl | refine Agree.put rfl ?_ | refine Agree.keep rfl ?_)), fun _ h => h⟩
      · have h2n := by first | exact of_decide_eq_true h2 | exact of_decide_eq_false h2 | exact eq_of_beq h2 | exact ne_of_beq_false h2 | exact bne_t h2 | exact bne_f h2 | exact h2
        refine c_exit rfl ?_
        refine c_seq ?_
        refine c_region ?_
        refine l_l rfl rfl rfl ?_
        refine l_x (x_callF (A := [(b, _)]) (G := [(b10, blk ((rowAt (runU zeroU l) ln).map (Value.int .u8)) 43)]) [b] call_12 rfl (by simp) (fun w hw => write_fn b (writeU (runU zeroU l) 65344 (ct % 128)) (off_good (runU_good zeroU_good hp) (show 0 ≤ ct % 128 ∧ ct % 128 < 128 by omega)).ok.wf w (St.lentV hw) 33059 7 (by decide) (by decide))) rfl rfl ?_
        rintro _ _ ⟨_, ⟨rfl, rfl⟩, rfl⟩
        rw [off_1 (runU_good zeroU_good hp) (show 0 ≤ ct % 128 ∧ ct % 128 < 128 by omega)]
        refine l_nil ?_
        refine c_seq ?_
        refine c_region ?_
        refine l_l rfl rfl rfl ?_
        refine l_x (x_callF (A := [(b, _)]) (G := [(b10, blk ((rowAt (runU zeroU l) ln).map (Value.int .u8)) 43)]) [b] call_12 rfl (by simp) (fun w hw => write_fn b ({ (writeU (runU zeroU l) 65344 (ct % 128)) with V := (writeU (runU zeroU l) 65344 (ct % 128)).V.set 291 7 } : PU) (off_1ok (runU_good zeroU_good hp) (show 0 ≤ ct % 128 ∧ ct % 128 < 128 by omega)).wf w (St.lentV hw) 65042 9 (by decide) (by decide))) rfl rfl ?_
        rintro _ _ ⟨_, ⟨rfl, rfl⟩, rfl⟩
        rw [off_2 (runU_good zeroU_good hp) (show 0 ≤ ct % 128 ∧ ct % 128 < 128 by omega)]
        refine l_nil ?_
        refine c_seq ?_
        refine c_region ?_
        refine l_l rfl rfl rfl ?_
        refine l_nil ?_
        refine c_seq ?_
        refine c_drawF _ [6, 8, 11, 17, 22, 29] [0, 0, 3, 7, 15, 31, 63, 31, 255, 511, 31, 1535, 4095, 8191, 16383, 32767, 65535, 131071, 262143, 524287, 1048575, 2097151, 4194303, 8388607, 16777215, 33554431, 67108863, 67108863, 201326591, 536870911, 67108863, 2147483647, 4294967295, 8589934591, 17179869183, 34359738367, 17179869183, 137438953471, 274877906943, 17179869183, 824633720831, 2199023255551, 4398046511103, 8796093022207, 17592186044415, 35184372088831, 35184372088831, 105553116266495, 281474976710655, 562949953421311, 1125899906842623, 2251799813685247, 4503599627370495, 9007199254740991, 4503599627370495, 36028797018963967, 72057594037927935, 144115188075855871, 288230376151711743, 576460752303423487, 288230376151711743, 2305843009213693951, 4611686018427387903, 9223372036854775807] (.step true 0 (.step true 1 (.step true 2 (.step true 3 (.step true 4 (.step true 5 (.step true 7 (.step true 10 (.step false 6 (.step false 8 (.step true 9 (.step false 11 (.step true 12 (.step true 13 (.step true 14 (.step true 15 (.step true 16 (.step false 17 (.step true 18 (.step true 19 (.step true 20 (.step true 21 (.step false 22 (.step true 23 (.step true 24 (.step true 25 (.step true 26 (.step true 27 (.step true 28 (.step true 30 (.step false 29 (.step true 31 (.step true 32 (.step true 33 (.step true 34 (.step true 36 (.step true 39 (.step false 35 (.step false 37 (.step true 38 (.step false 40 (.step true 41 (.step true 42 (.step true 43 (.step true 44 (.step true 45 (.step true 46 (.step false 47 (.step false 48 (.step true 49 (.step true 50 (.step true 51 (.step true 52 (.step true 54 (.step false 53 (.step true 55 (.step true 56 (.step true 57 (.step true 58 (.step true 60 (.step false 59 (.step true 61 (.step true 62 (.step true 63 .done)))))))))))))))))))))))))))))))))))))))))))))))))))))))))))))))) rfl (by kernel_rfl) (by kernel_rfl) (by kernel_rfl) (fun _ h => h) ?_
        refine d_light rfl rfl rfl rfl rfl ?_
        refine d_light rfl rfl rfl rfl rfl ?_
        refine d_as (v := (.int .u8 0)) rfl (l_or rfl rfl) rfl rfl rfl (congrArg _ (by decide)) ?_
        refine d_sure true rfl rfl rfl rfl rfl ?_
        refine d_light rfl rfl rfl rfl rfl ?_
        refine d_light rfl rfl rfl rfl rfl ?_
        refine d_light rfl rfl rfl rfl rfl ?_
        refine d_light rfl rfl rfl rfl rfl ?_
        refine d_x rfl (x_val call_14 rfl (fun w hw => line_fnU b (offS (runU zeroU l) (ct % 128)) (off_sgood (runU_good zeroU_good hp) (show 0 ≤ ct % 128 ∧ ct % 128 < 128 by omega)).ok.wf w (row_own (by repeat (first | exact .head _ | refine .tail _ ?_ | refine List.mem_append_right _ ?_)) w hw))) rfl rfl (by intro _ _ _ hK x hx; obtain ⟨rfl, rfl⟩ := hK; repeat (first | exact hx | exact List.mem_append_left _ hx | refine List.mem_append_right _ ?_ | refine .tail _ ?_)) ?_
        rintro _ _ ⟨rfl, rfl⟩
        rw [off_line (runU_good zeroU_good hp) (show 0 ≤ ct % 128 ∧ ct % 128 < 128 by omega)]
        refine d_x rfl (x_val call_15 rfl (fun w hw => dot_fnU b (offS (runU zeroU l) (ct % 128)) (off_sgood (runU_good zeroU_good hp) (show 0 ≤ ct % 128 ∧ ct % 128 < 128 by omega)).ok.wf w (row_own (by repeat (first | exact .head _ | refine .tail _ ?_ | refine List.mem_append_right _ ?_)) w hw))) rfl rfl (by intro _ _ _ hK x hx; obtain ⟨rfl, rfl⟩ := hK; repeat (first | exact hx | exact List.mem_append_left _ hx | refine List.mem_append_right _ ?_ | refine .tail _ ?_)) ?_
        rintro _ _ ⟨rfl, rfl⟩
        rw [off_dot (runU_good zeroU_good hp) (show 0 ≤ ct % 128 ∧ ct % 128 < 128 by omega)]
        refine d_as rfl (l_add rfl rfl) rfl rfl rfl (by first | exact as_i64 (by omega) (by omega) | rfl) ?_
        refine d_x rfl (x_val call_16 rfl (fun w hw => mode_fn b (offS (runU zeroU l) (ct % 128)) (off_sgood (runU_good zeroU_good hp) (show 0 ≤ ct % 128 ∧ ct % 128 < 128 by omega)).ok.wf w (row_own (by repeat (first | exact .head _ | refine .tail _ ?_ | refine List.mem_append_right _ ?_)) w hw))) rfl rfl (by intro _ _ _ hK x hx; obtain ⟨rfl, rfl⟩ := hK; repeat (first | exact hx | exact List.mem_append_left _ hx | refine List.mem_append_right _ ?_ | refine .tail _ ?_)) ?_
        rintro _ _ ⟨rfl, rfl⟩
        rw [off_mode (runU_good zeroU_good hp) (show 0 ≤ ct % 128 ∧ ct % 128 < 128 by omega)]
        refine d_as rfl (l_add rfl rfl) rfl rfl rfl (by first | exact as_i64 (by omega) (by omega) | rfl) ?_
        refine d_sure true rfl rfl rfl rfl rfl ?_
        refine d_light rfl rfl rfl rfl rfl ?_
        refine d_light rfl rfl rfl rfl rfl ?_
        refine d_light rfl rfl rfl rfl rfl ?_
        refine d_x rfl (x_val call_17 rfl (fun w hw => read_fn b (offS (runU zeroU l) (ct % 128)) (off_sgood (runU_good zeroU_good hp) (show 0 ≤ ct % 128 ∧ ct % 128 < 128 by omega)).ok.wf w (row_own (by repeat (first | exact .head _ | refine .tail _ ?_ | refine List.mem_append_right _ ?_)) w hw) 33059 (by decide))) rfl rfl (by intro _ _ _ hK x hx; obtain ⟨rfl, rfl⟩ := hK; repeat (first | exact hx | exact List.mem_append_left _ hx | refine List.mem_append_right _ ?_ | refine .tail _ ?_)) ?_
        rintro _ _ ⟨rfl, rfl⟩
        rw [off_rV (runU_good zeroU_good hp) (show 0 ≤ ct % 128 ∧ ct % 128 < 128 by omega)]
        refine d_sure true rfl rfl rfl rfl rfl ?_
        refine d_light rfl rfl rfl rfl rfl ?_
        refine d_light rfl rfl rfl rfl rfl ?_
        refine d_light rfl rfl rfl rfl rfl ?_
        refine d_x rfl (x_val call_17 rfl (fun w hw => read_fn b (offS (runU zeroU l) (ct % 128)) (off_sgood (runU_good zeroU_good hp) (show 0 ≤ ct % 128 ∧ ct % 128 < 128 by omega)).ok.wf w (row_own (by repeat (first | exact .head _ | refine .tail _ ?_ | refine List.mem_append_right _ ?_)) w hw) 65042 (by decide))) rfl rfl (by intro _ _ _ hK x hx; obtain ⟨rfl, rfl⟩ := hK; repeat (first | exact hx | exact List.mem_append_left _ hx | refine List.mem_append_right _ ?_ | refine .tail _ ?_)) ?_
        rintro _ _ ⟨rfl, rfl⟩
        rw [off_rO (runU_good zeroU_good hp) (show 0 ≤ ct % 128 ∧ ct % 128 < 128 by omega)]
        refine d_sure true rfl rfl rfl rfl rfl ?_
        refine d_light rfl rfl rfl rfl rfl ?_
        refine d_light rfl rfl rfl rfl rfl ?_
        refine d_light rfl rfl rfl rfl rfl ?_
        refine d_light rfl rfl rfl rfl rfl ?_
        refine d_as rfl (l_conv rfl rfl rfl) rfl rfl rfl (by first | exact as_i64 (by omega) (by omega) | rfl) ?_
        refine d_loadA rfl rfl rfl (by rw [List.length_map, rowAt_len (runU_ok zeroU_ok hp).wf]; rfl) (srow_own (b := b10) (l := (rowAt (runU zeroU l) ln).map (Value.int .u8)) (by repeat (first | exact .head _ | refine .tail _ ?_ | refine List.mem_append_right _ ?_))) rfl rfl ?_
        refine d_x rfl (x_val call_23 rfl (fun w hw => row_fn b (offS (runU zeroU l) (ct % 128)) (off_sgood (runU_good zeroU_good hp) (show 0 ≤ ct % 128 ∧ ct % 128 < 128 by omega)).ok.wf w (row_own (by repeat (first | exact .head _ | refine .tail _ ?_ | refine List.mem_append_right _ ?_)) w hw) ln)) rfl rfl (by intro _ _ _ hK x hx; obtain ⟨rfl, rfl⟩ := hK; repeat (first | exact hx | exact List.mem_append_left _ hx | refine List.mem_append_right _ ?_ | refine .tail _ ?_)) ?_
        rintro _ _ ⟨rfl, rfl⟩
        rw [off_row]
        refine d_yield (v := .bool true) rfl rfl rfl (fun w _ => ?_) ?_
        · exact (run_eqa w (xs := rowAt (runU zeroU l) ln) (ys := rowAt (runU zeroU l) ln) (kd := .u8) rfl rfl (n := 160) (el := 5) rfl rfl (by kernel_rfl) (rowAt_len (runU_ok zeroU_ok hp).wf _) (rowAt_len (runU_ok zeroU_ok hp).wf _)).trans (by rw [beq_self_eq_true])
        refine d_light rfl rfl rfl rfl rfl ?_
        refine d_light rfl rfl rfl rfl rfl ?_
        refine d_light rfl rfl rfl rfl rfl ?_
        refine d_light rfl rfl rfl rfl rfl ?_
        refine d_light rfl rfl rfl rfl rfl ?_
        refine d_x rfl (x_val call_13 rfl (fun w hw => tick_nil w)) rfl rfl (by intro h; cases h) ?_
        rintro _ _ ⟨rfl, rfl⟩
        refine d_x rfl (x_val call_17 rfl (fun w hw => read_nil 32768 w)) rfl rfl (by intro h; cases h) ?_
        rintro _ _ ⟨rfl, rfl⟩
        refine d_as rfl (l_add rfl rfl) rfl rfl rfl (by first | exact as_u8 (by omega) (by omega) | exact as_u8m _) ?_
        refine d_x rfl (x_val call_12 rfl (fun w hw => write_nil 32768 1 w)) rfl rfl (by intro h; cases h) ?_
        rintro _ _ ⟨rfl, rfl⟩
        refine d_as rfl (l_add rfl rfl) rfl rfl rfl (by first | exact as_u8 (by omega) (by omega) | exact as_u8m _) ?_
        refine d_sure true rfl rfl rfl rfl rfl ?_
        refine d_light rfl rfl rfl rfl rfl ?_
        refine d_light rfl rfl rfl rfl rfl ?_
        refine d_light rfl rfl rfl rfl rfl ?_
        refine d_light rfl rfl rfl rfl rfl ?_
        refine d_x rfl (x_call call_25 rfl (fun w hw => enc_fn b (offS (runU zeroU l) (ct % 128)) (off_sgood (runU_good zeroU_good hp) (show 0 ≤ ct % 128 ∧ ct % 128 < 128 by omega)).ok.wf w (row_own (by repeat (first | exact .head _ | refine .tail _ ?_ | refine List.mem_append_right _ ?_)) w hw))) rfl rfl (by intro h; cases h) ?_
        rintro v91 _ ⟨G91, hV91, rfl⟩
        obtain ⟨b91, c91, sp91, rfl, hc91, hr91, rfl⟩ := vec_n hV91 (encU_len (off_sgood (runU_good zeroU_good hp) (show 0 ≤ ct % 128 ∧ ct % 128 < 128 by omega)).ok.wf) (by decide)
        refine d_x rfl (x_val call_27 rfl (fun w hw => dec_nil (some ⟨b91, 0, none⟩) 31408 c91 w)) rfl rfl (by intro h; cases h) ?_
        rintro _ _ ⟨rfl, rfl⟩
        refine d_sure true rfl rfl rfl rfl rfl ?_
        refine d_light rfl rfl rfl rfl rfl ?_
        refine d_light rfl rfl rfl rfl rfl ?_
        refine d_light rfl rfl rfl rfl rfl ?_
        refine d_light rfl (light_array (l := ((List.replicate 160 (0 : Int)).map (Value.int .u8))) (z := ((List.replicate 160 (0 : Int)).map (Value.int .u8))) (ps := []) rfl (by kernel_rfl) rfl rfl) rfl rfl rfl ?_
        refine d_x rfl (x_val call_23 rfl (fun w hw => row_fn b (offS (runU zeroU l) (ct % 128)) (off_sgood (runU_good zeroU_good hp) (show 0 ≤ ct % 128 ∧ ct % 128 < 128 by omega)).ok.wf w (row_own (by repeat (first | exact .head _ | refine .tail _ ?_ | refine List.mem_append_right _ ?_)) w hw) (-1))) rfl rfl (by intro h; cases h) ?_
        rintro _ _ ⟨rfl, rfl⟩
        rw [rowAt_out (n := -1) (by decide)]
        refine d_yield (v := .bool true) rfl rfl rfl (fun w _ => ?_) ?_
        · exact (run_eqa w (xs := List.replicate 160 0) (ys := List.replicate 160 0) (kd := .u8) rfl rfl (n := 160) (el := 5) rfl rfl (by kernel_rfl) rfl rfl).trans (by rw [beq_self_eq_true])
        refine d_light rfl rfl rfl rfl rfl ?_
        refine d_light rfl rfl rfl rfl rfl ?_
        refine d_light rfl rfl rfl rfl rfl ?_
        refine d_light rfl (light_array (l := ((List.replicate 160 (0 : Int)).map (Value.int .u8))) (z := ((List.replicate 160 (0 : Int)).map (Value.int .u8))) (ps := []) rfl (by kernel_rfl) rfl rfl) rfl rfl rfl ?_
        refine d_x rfl (x_val call_23 rfl (fun w hw => row_fn b (offS (runU zeroU l) (ct % 128)) (off_sgood (runU_good zeroU_good hp) (show 0 ≤ ct % 128 ∧ ct % 128 < 128 by omega)).ok.wf w (row_own (by repeat (first | exact .head _ | refine .tail _ ?_ | refine List.mem_append_right _ ?_)) w hw) 144)) rfl rfl (by intro h; cases h) ?_
        rintro _ _ ⟨rfl, rfl⟩
        rw [rowAt_out (n := 144) (by decide)]
        refine d_yield (v := .bool true) rfl rfl rfl (fun w _ => ?_) ?_
        · exact (run_eqa w (xs := List.replicate 160 0) (ys := List.replicate 160 0) (kd := .u8) rfl rfl (n := 160) (el := 5) rfl rfl (by kernel_rfl) rfl rfl).trans (by rw [beq_self_eq_true])
        refine d_light rfl rfl rfl rfl rfl ?_
        refine d_light rfl rfl rfl rfl rfl ?_
        refine d_nil ?_
        refine c_ret ?_
        exact l_end (fun _ _ => rets_v rfl) (List.nil_sublist _) ⟨rfl, rfl⟩

end Go.Proofs.Ytjceoaomkbabmaa
