/- The contracts of the loops: which sprites are seen, lists that are alike, memory that is filled. -/
import Derived.Test.YtmdcapafaiemgaaLeafB
import Derived.Test.YtmdcapafaiemgaaVvH
import Derived.Test.YtmdcapafaiemgaaCalls
namespace Go.Proofs.Ytmdcapafaiemgaa
open Go Go.VV Go.Proofs

theorem scan_fn (c cb cf cs : Int) (hc : 0 ≤ c ∧ c < 256) (a2 : Option Addr) (cap2 : Nat) (oam : List Int) (ho : Byts oam) (line : Int) (hcap : oam.length ≤ cap2) (w : World) (hO : Ns w .u8 a2 oam) :
    Does Try.prog 14 [.agg #[.int .u8 c, .int .u8 cb, .int .u8 cf, .int .u8 cs], .slice a2 oam.length cap2, .int .i64 line] w [] (fun v H => Lst .i64 (scan oam c line) v H) := by
  refine does_of Try.func14 rfl rfl rfl (St.refl w) ?_
  refine c_seq ?_
  refine c_region ?_
  refine l_x (x_box rfl rfl) rfl rfl ?_
  rintro _ _ ⟨b3, rfl, rfl⟩
  refine l_l rfl rfl rfl ?_
  refine l_nil ?_
  refine c_seq ?_
  refine c_region ?_
  refine l_l rfl rfl rfl ?_
  refine l_nil ?_
  refine c_seq ?_
  refine c_seq ?_
  refine c_region ?_
  refine l_l rfl rfl rfl ?_
  refine l_nil ?_
  refine c_block ?_
  refine c_loop (σ := Nat × Value × Heap) [7, 8, 9, 10, 11, 12, 13, 14, 15, 16, 17, 18, 19, 20, 21, 22, 23, 24] (fun s => [(7, s.2.1), (9, .int .i64 s.1)]) (fun s => s.2.2 ++ [(b3, blk [.int .u8 c, .int .u8 cb, .int .u8 cf, .int .u8 cs] 27)]) (fun s => s.1 ≤ 40 ∧ Vec 3 1 s.2.1 (scanK oam c line s.1).length ((scanK oam c line s.1).map (.int .i64)) s.2.2) (fun s => 40 - s.1) (0, .slice none 0 0, []) ?_ ?_ ?_ ?_
  · exact ⟨by omega, vec_zero oam c line⟩
  · exact .cons rfl (.cons rfl .nil)
  · exact fun _ h => h
  · rintro ⟨k, v, G⟩ y ⟨hk, hV⟩
    have hlen := scanK_len oam c line k
    simp only at hk hV ⊢
    refine c_seq ?_
    refine c_region ?_
    refine l_l rfl rfl rfl ?_
    refine l_nil ?_
    refine c_seq ?_
    refine c_cond rfl (fun h1 => ?_) (fun h1 => ?_)
    · refine c_skip ?_
      refine c_seq ?_
      refine c_block ?_
      refine c_seq ?_
      refine c_region ?_
      refine l_l rfl rfl rfl ?_
      refine l_l rfl rfl rfl ?_
      refine l_nil ?_
      refine c_seq ?_
      refine c_draw _ [3, 4] (.step true 0 (.step true 1 (.step true 2 (.step true 5 (.step false 3 (.step true 4 (.step false 6 (.step false 7 .done)))))))) rfl (by kernel_rfl) (by kernel_rfl) (fun _ h => h) ?_
      refine d_light rfl rfl rfl rfl rfl ?_
      refine d_light rfl rfl rfl rfl rfl ?_
      refine d_light rfl rfl rfl rfl rfl ?_
      refine d_loadA rfl rfl rfl rfl (srow_own (by repeat (first | exact .head _ | refine .tail _ ?_ | refine List.mem_append_right _ ?_))) rfl rfl ?_
      refine d_x rfl (x_val call_21 rfl (fun w hw => of_fn _ _ oam ho k (by simp at *; omega) hcap w (hO.later0 hw))) rfl rfl (by intro _ _ _ hK x hx; obtain ⟨rfl, rfl⟩ := hK; repeat (first | exact hx | refine List.mem_append_right _ ?_ | refine .tail _ ?_)) ?_
      rintro _ _ ⟨rfl, rfl⟩
      refine d_light rfl (light_fs rfl rfl rfl rfl rfl) rfl rfl rfl ?_
      refine d_x rfl (x_val call_27 rfl (fun w hw => height_fn c cb cf cs hc w)) rfl rfl (by intro h; cases h) ?_
      rintro _ _ ⟨rfl, rfl⟩
      refine d_x rfl (x_val call_26 rfl (fun w hw => within_fn _ _ _ w)) rfl rfl (by intro h; cases h) ?_
      rintro _ _ ⟨rfl, rfl⟩
      refine d_nil ?_
      refine c_cond rfl (fun h2 => ?_) (fun h2 => ?_)
      · refine c_region ?_
        refine l_mv (v := v) rfl rfl rfl ?_
        refine l_l rfl rfl rfl ?_
        refine l_x (x_slc rfl rfl rfl rfl rfl rfl) rfl rfl ?_
        rintro _ _ ⟨b22, rfl, rfl⟩
        refine l_x (x_append (A := [_]) (G := G) (R := [_]) (v := v) (m := 1) (by_ := 8) rfl rfl rfl rfl hV (fun w hw => .row _ _ _ _ _ rfl (row_own (.head _) w hw)) rfl (by omega) (by omega)) rfl rfl ?_
        rintro v23 _ ⟨G', hV', hnil, rfl⟩
        refine l_as' (v := v23) rfl rfl rfl ?_
        refine l_nil ?_
        refine c_region ?_
        refine l_l rfl rfl rfl ?_
        refine l_l rfl rfl rfl ?_
        refine l_nil ?_
        exact ⟨(k + 1, v23, G'), ⟨by simp at *; omega, vec_yes (has_law ho h2) hV'⟩, by simp at *; omega, .cons rfl (.cons (congrArg _ (succ_law (by omega))) .nil), (by repeat (first | exact Agree.refl _ _ | exact Agree.mix rfl | refine Agree.put rfl ?_ | refine Agree.keep rfl ?_)), (fun _ h => h.sub (by first | exact List.Sublist.refl _ | exact (List.Sublist.refl _).append (List.sublist_append_right _ _) | exact List.sublist_append_right _ _ | exact List.sublist_cons_self _ _))⟩
      · refine c_skip ?_
        refine c_region ?_
        refine l_l rfl rfl rfl ?_
        refine l_l rfl rfl rfl ?_
        refine l_nil ?_
        exact ⟨(k + 1, v, G), ⟨by simp at *; omega, vec_no (has_law ho h2) hV⟩, by simp at *; omega, .cons rfl (.cons (congrArg _ (succ_law (by omega))) .nil), (by repeat (first | exact Agree.refl _ _ | exact Agree.mix rfl | refine Agree.put rfl ?_ | refine Agree.keep rfl ?_)), (fun _ h => h.sub (by first | exact List.Sublist.refl _ | exact (List.Sublist.refl _).append (List.sublist_append_right _ _) | exact List.sublist_append_right _ _ | exact List.sublist_cons_self _ _))⟩
    · refine c_exit rfl ?_
      refine c_seq ?_
      obtain rfl : k = 40 := by simp at *; omega
      generalize hm : (scanK oam c line 40).length = m at hV
      generalize hx : (scanK oam c line 40).map (Value.int .i64) = xs at hV
      clear hlen
      rcases hV with _ | ⟨b, n, cap, xs, sp, hn, hcc, hmx, hle⟩
      · refine c_region ?_
        refine l_l rfl rfl rfl ?_
        refine l_l rfl rfl rfl ?_
        refine l_l (by first | exact light_len rfl rfl | exact light_lens rfl rfl | rfl) rfl rfl ?_
        refine l_l (light_min rfl rfl) rfl rfl ?_
        refine l_l rfl rfl rfl ?_
        refine l_l rfl rfl rfl ?_
        refine l_nil ?_
        refine c_ret ?_
        exact l_end0 (fun _ _ => rets_v rfl) (scan_nil hm)
      · refine c_region ?_
        refine l_l rfl rfl rfl ?_
        refine l_l rfl rfl rfl ?_
        refine l_l (by first | exact light_len rfl rfl | exact light_lens rfl rfl | rfl) rfl rfl ?_
        refine l_l (light_min rfl rfl) rfl rfl ?_
        refine l_l (cut_slice1 0 (min m 10) rfl rfl rfl rfl rfl (by show min (m : Int) 10 = _; omega) (by omega) (by omega)) rfl rfl ?_
        refine l_l rfl rfl rfl ?_
        refine l_nil ?_
        refine c_ret ?_
        exact l_end (fun _ _ => rets_v rfl) (List.sublist_append_left _ _) (scan_row hm hx hle)

theorem rscan_fn (c cb cf cs : Int) (hc : 0 ≤ c ∧ c < 256) (a2 : Option Addr) (cap2 : Nat) (oam : List Int) (ho : Byts oam) (line : Int) (hcap : oam.length ≤ cap2) (w : World) (hO : Ns w .u8 a2 oam) :
    Does Try.prog 15 [.agg #[.int .u8 c, .int .u8 cb, .int .u8 cf, .int .u8 cs], .slice a2 oam.length cap2, .int .i64 line] w [] (fun v H => Lst .i64 (scan oam c line) v H) := by
  refine does_of Try.func15 rfl rfl rfl (St.refl w) ?_
  refine c_seq ?_
  refine c_region ?_
  refine l_x (x_box rfl rfl) rfl rfl ?_
  rintro _ _ ⟨b3, rfl, rfl⟩
  refine l_l rfl rfl rfl ?_
  refine l_nil ?_
  refine c_seq ?_
  refine c_region ?_
  refine l_l rfl rfl rfl ?_
  refine l_nil ?_
  refine c_seq ?_
  refine c_seq ?_
  refine c_region ?_
  refine l_l rfl rfl rfl ?_
  refine l_l rfl rfl rfl ?_
  refine l_b rfl rfl rfl (fun h1 => ?_) (fun h1 => ?_)
  · refine l_p rfl rfl ?_
    refine l_p rfl rfl ?_
    refine l_l rfl rfl rfl ?_
    refine l_nil ?_
    refine c_true rfl ?_
    refine c_seq ?_
    refine c_region ?_
    refine l_l rfl rfl rfl ?_
    refine l_nil ?_
    refine c_ret ?_
    exact l_end0 (fun _ _ => rets_v rfl) (by rw [scan_far ho (by simp at *; omega)]; exact .nil)
  · refine l_l rfl rfl rfl ?_
    refine l_l rfl rfl rfl ?_
    refine l_l rfl rfl rfl ?_
    refine l_nil ?_
    refine c_cond rfl (fun h2 => ?_) (fun h2 => ?_)
    · refine c_seq ?_
      refine c_region ?_
      refine l_l rfl rfl rfl ?_
      refine l_nil ?_
      refine c_ret ?_
      exact l_end0 (fun _ _ => rets_v rfl) (by rw [scan_far ho (by simp at *; omega)]; exact .nil)
    · refine c_skip ?_
      refine c_seq ?_
      refine c_seq ?_
      refine c_region ?_
      refine l_l rfl rfl rfl ?_
      refine l_nil ?_
      refine c_block ?_
      refine c_loop (σ := Nat × Value × Heap) [7, 8, 9, 16, 17, 18, 19, 20, 21, 22, 23, 24, 25, 26, 27, 28, 29, 30, 31, 32, 33, 34, 35, 36, 37, 38, 39, 40, 41, 42, 43] (fun s => [(7, s.2.1), (8, .int .i64 s.1)]) (fun s => s.2.2 ++ [(b3, blk [.int .u8 c, .int .u8 cb, .int .u8 cf, .int .u8 cs] 24)]) (fun s => s.1 ≤ 40 ∧ Vec 3 1 s.2.1 ((scanK oam c line s.1).take 10).length (((scanK oam c line s.1).take 10).map (.int .i64)) s.2.2) (fun s => 40 - s.1) (0, .slice none 0 0, []) ?_ ?_ ?_ ?_
      · exact ⟨by omega, rvec_zero oam c line⟩
      · exact .cons rfl (.cons rfl .nil)
      · exact fun _ h => h
      · rintro ⟨k, v, G⟩ y ⟨hk, hV⟩
        have hlen := scanK_len oam c line k
        simp only at hk hV ⊢
        obtain ⟨a7, c7, rfl⟩ := hV.slice
        have hl10 := List.length_take_le 10 (scanK oam c line k)
        refine c_seq ?_
        refine c_seq ?_
        refine c_region ?_
        refine l_l rfl rfl rfl ?_
        refine l_l rfl rfl rfl ?_
        refine l_nil ?_
        refine c_cond rfl (fun h3 => ?_) (fun h3 => ?_)
        · refine c_skip ?_
          refine c_seq ?_
          refine c_block ?_
          refine c_seq ?_
          refine c_region ?_
          refine l_l rfl rfl rfl ?_
          refine l_l rfl rfl rfl ?_
          refine l_x (x_val call_22 rfl (fun w hw => oat_fn _ _ oam k 0 (by simp at *; omega) (by decide) ho w (hO.later0 hw))) rfl rfl ?_
          rintro _ _ ⟨rfl, rfl⟩
          refine l_l rfl rfl rfl ?_
          refine l_l rfl rfl rfl ?_
          refine l_nil ?_
          refine c_seq ?_
          refine c_region ?_
          refine l_l rfl rfl rfl ?_
          refine l_l rfl rfl rfl ?_
          refine l_l rfl rfl rfl ?_
          refine l_b rfl rfl rfl (fun h4 => ?_) (fun h4 => ?_)
          · refine l_l rfl rfl rfl ?_
            refine l_l rfl rfl rfl ?_
            refine l_x (x_loadA rfl rfl rfl (row_own (by repeat (first | exact .head _ | refine .tail _ ?_ | refine List.mem_append_right _ ?_)))) rfl rfl ?_
            rintro _ _ ⟨rfl, rfl⟩
            refine l_x (x_val call_23 rfl (fun w hw => rheight_fn c cb cf cs hc w)) rfl rfl ?_
            rintro _ _ ⟨rfl, rfl⟩
            refine l_l rfl rfl rfl ?_
            refine l_l rfl rfl rfl ?_
            refine l_l rfl rfl rfl ?_
            refine l_b rfl rfl rfl (fun h5 => ?_) (fun h5 => ?_)
            · refine l_l rfl rfl rfl ?_
              refine l_l (by first | exact light_len rfl rfl | exact light_lens rfl rfl | rfl) rfl rfl ?_
              refine l_l rfl rfl rfl ?_
              refine l_l rfl rfl rfl ?_
              refine l_nil ?_
              refine c_cond rfl (fun h6 => ?_) (fun h6 => ?_)
              · refine c_region ?_
                refine l_l rfl rfl rfl ?_
                refine l_l rfl rfl rfl ?_
                refine l_x (x_slc rfl rfl rfl rfl rfl rfl) rfl rfl ?_
                rintro _ _ ⟨b42, rfl, rfl⟩
                refine l_x (x_append (A := [_]) (G := G) (R := [_]) (v := .slice a7 ((scanK oam c line k).take 10).length c7) (m := 1) (by_ := 8) rfl rfl rfl rfl hV (fun w hw => .row _ _ _ _ _ rfl (row_own (.head _) w hw)) rfl (by omega) (by omega)) rfl rfl ?_
                rintro v43 _ ⟨G', hV', hnil, rfl⟩
                refine l_as' (v := v43) rfl rfl rfl ?_
                refine l_nil ?_
                refine c_region ?_
                refine l_l rfl rfl rfl ?_
                refine l_l rfl rfl rfl ?_
                refine l_l rfl rfl rfl ?_
                refine l_nil ?_
                exact ⟨(k + 1, v43, G'), ⟨by simp at *; omega, rvec_yes (by rw [rhas_law ho]; simp at *; omega) (by simp at *; omega) hV'⟩, by simp at *; omega, .cons rfl (.cons (congrArg _ (succ_law (by omega))) .nil), (by repeat (first | exact Agree.refl _ _ | exact Agree.mix rfl | refine Agree.put rfl ?_ | refine Agree.keep rfl ?_)), (fun _ h => h.sub (by first | exact List.Sublist.refl _ | exact (List.Sublist.refl _).append (List.sublist_append_right _ _) | exact List.sublist_append_right _ _ | exact List.sublist_cons_self _ _))⟩
              · refine c_skip ?_
                refine c_region ?_
                refine l_l rfl rfl rfl ?_
                refine l_l rfl rfl rfl ?_
                refine l_l rfl rfl rfl ?_
                refine l_nil ?_
                exact ⟨(k + 1, _, G), ⟨by simp at *; omega, rvec_no (.inr (by simp at *; omega)) hV⟩, by simp at *; omega, .cons rfl (.cons (congrArg _ (succ_law (by omega))) .nil), (by repeat (first | exact Agree.refl _ _ | exact Agree.mix rfl | refine Agree.put rfl ?_ | refine Agree.keep rfl ?_)), (fun _ h => h.sub (by first | exact List.Sublist.refl _ | exact (List.Sublist.refl _).append (List.sublist_append_right _ _) | exact List.sublist_append_right _ _ | exact List.sublist_cons_self _ _))⟩
            · refine l_p rfl rfl ?_
              refine l_p rfl rfl ?_
              refine l_p rfl rfl ?_
              refine l_l rfl rfl rfl ?_
              refine l_nil ?_
              refine c_false rfl ?_
              refine c_skip ?_
              refine c_region ?_
              refine l_l rfl rfl rfl ?_
              refine l_l rfl rfl rfl ?_
              refine l_l rfl rfl rfl ?_
              refine l_nil ?_
              exact ⟨(k + 1, _, G), ⟨by simp at *; omega, rvec_no (.inl (by rw [rhas_law ho]; simp at *; omega)) hV⟩, by simp at *; omega, .cons rfl (.cons (congrArg _ (succ_law (by omega))) .nil), (by repeat (first | exact Agree.refl _ _ | exact Agree.mix rfl | refine Agree.put rfl ?_ | refine Agree.keep rfl ?_)), (fun _ h => h.sub (by first | exact List.Sublist.refl _ | exact (List.Sublist.refl _).append (List.sublist_append_right _ _) | exact List.sublist_append_right _ _ | exact List.sublist_cons_self _ _))⟩
          · refine l_p rfl rfl ?_
            refine l_p rfl rfl ?_
            refine l_p rfl rfl ?_
            refine l_p rfl rfl ?_
            refine l_p rfl rfl ?_
            refine l_p rfl rfl ?_
            refine l_l rfl rfl rfl ?_
            refine l_l rfl rfl rfl ?_
            refine l_p rfl rfl ?_
            refine l_p rfl rfl ?_
            refine l_p rfl rfl ?_
            refine l_l rfl rfl rfl ?_
            refine l_nil ?_
            refine c_false rfl ?_
            refine c_skip ?_
            refine c_region ?_
            refine l_l rfl rfl rfl ?_
            refine l_l rfl rfl rfl ?_
            refine l_l rfl rfl rfl ?_
            refine l_nil ?_
            exact ⟨(k + 1, _, G), ⟨by simp at *; omega, rvec_no (.inl (by rw [rhas_law ho]; simp at *; omega)) hV⟩, by simp at *; omega, .cons rfl (.cons (congrArg _ (succ_law (by omega))) .nil), (by repeat (first | exact Agree.refl _ _ | exact Agree.mix rfl | refine Agree.put rfl ?_ | refine Agree.keep rfl ?_)), (fun _ h => h.sub (by first | exact List.Sublist.refl _ | exact (List.Sublist.refl _).append (List.sublist_append_right _ _) | exact List.sublist_append_right _ _ | exact List.sublist_cons_self _ _))⟩
        · refine c_exit rfl ?_
          refine c_seq ?_
          refine c_region ?_
          refine l_l rfl rfl rfl ?_
          refine l_l rfl rfl rfl ?_
          refine l_nil ?_
          refine c_ret ?_
          obtain rfl : k = 40 := by simp at *; omega
          exact l_end (fun _ _ => rets_v rfl) (List.sublist_append_left _ _) (Lst.of_vec hV)

theorem same_fn (a1 a2 : Option Addr) (c1 c2 : Nat) (l1 l2 : List Int) (h1m : l1.length ≤ 140737488355328) (w : World) (hA : Ns w .i64 a1 l1) (hB : Ns w .i64 a2 l2) :
    Does Try.prog 13 [.slice a1 l1.length c1, .slice a2 l2.length c2] w [] (fun v H => H = [] ∧ v = .bool (decide (l1 = l2))) := by
  refine does_of Try.func13 rfl rfl rfl (St.refl w) ?_
  refine c_seq ?_
  refine c_region ?_
  refine l_l rfl rfl rfl ?_
  refine l_nil ?_
  refine c_seq ?_
  refine c_seq ?_
  refine c_region ?_
  refine l_l rfl rfl rfl ?_
  refine l_l (by first | exact light_len rfl rfl | exact light_lens rfl rfl | rfl) rfl rfl ?_
  refine l_l rfl rfl rfl ?_
  refine l_l (by first | exact light_len rfl rfl | exact light_lens rfl rfl | rfl) rfl rfl ?_
  refine l_l rfl rfl rfl ?_
  refine l_nil ?_
  refine c_cond rfl (fun h1 => ?_) (fun h1 => ?_)
  · refine c_seq ?_
    refine c_region ?_
    refine l_l rfl rfl rfl ?_
    refine l_nil ?_
    refine c_ret ?_
    exact l_end0 (fun _ _ => rets_v rfl) ⟨rfl, congrArg _ (same_len (by simp at *; omega)).symm⟩
  · refine c_skip ?_
    refine c_seq ?_
    refine c_seq ?_
    refine c_region ?_
    refine l_l rfl rfl rfl ?_
    refine l_l (by first | exact light_len rfl rfl | exact light_lens rfl rfl | rfl) rfl rfl ?_
    refine l_l rfl rfl rfl ?_
    refine l_nil ?_
    refine c_block ?_
    refine c_loop (σ := Nat) [4, 5, 13, 14, 15, 16, 17, 18, 19, 20, 21, 22, 23, 24, 25] (fun k => [(13, .int .i64 k)]) (fun _ => []) (fun k => k ≤ l1.length ∧ ∀ j, j < k → l1.getD j 0 = l2.getD j 0) (fun k => l1.length - k) 0 ?_ ?_ ?_ ?_
    · exact ⟨by omega, by omega⟩
    · exact .cons rfl .nil
    · exact fun _ h => h
    · rintro k y ⟨hk, hj⟩
      refine c_seq ?_
      refine c_region ?_
      refine l_l rfl rfl rfl ?_
      refine l_nil ?_
      refine c_seq ?_
      refine c_cond rfl (fun h2 => ?_) (fun h2 => ?_)
      · refine c_skip ?_
        refine c_seq ?_
        refine c_block ?_
        refine c_seq ?_
        refine c_region ?_
        refine l_l rfl rfl rfl ?_
        refine l_l rfl rfl rfl ?_
        refine l_nil ?_
        refine c_seq ?_
        obtain ⟨b1, o1, rfl, r1⟩ := hA.row (i := k) (by simp at *; omega)
        obtain ⟨b2, o2, rfl, r2⟩ := hB.row (i := k) (by simp at *; omega)
        refine c_draw _ [4, 5, 6, 7] (.step true 0 (.step true 1 (.step true 2 (.step true 3 (.step true 4 (.step true 5 (.step true 6 (.step true 7 (.step true 8 .done))))))))) rfl (by kernel_rfl) (by kernel_rfl) (fun _ h => h) ?_
        refine d_light rfl rfl rfl rfl rfl ?_
        refine d_light rfl rfl rfl rfl rfl ?_
        refine d_light rfl (idx_slice1 k rfl rfl rfl rfl (by simp at *; omega)) rfl rfl rfl ?_
        refine d_load rfl rfl rfl (s_old (r1.int (by simp at *; omega)) (by simp)) rfl rfl ?_
        refine d_light rfl rfl rfl rfl rfl ?_
        refine d_light rfl rfl rfl rfl rfl ?_
        refine d_light rfl (idx_slice1 k rfl rfl rfl rfl (by simp at *; omega)) rfl rfl rfl ?_
        refine d_load rfl rfl rfl (s_old (r2.int (by simp at *; omega)) (by simp)) rfl rfl ?_
        refine d_light rfl rfl rfl rfl rfl ?_
        refine d_nil ?_
        refine c_cond rfl (fun h3 => ?_) (fun h3 => ?_)
        · refine c_seq ?_
          refine c_region ?_
          refine l_l rfl rfl rfl ?_
          refine l_nil ?_
          refine c_ret ?_
          exact l_end0 (fun _ _ => rets_v rfl) ⟨rfl, congrArg _ (same_no (k := k) (by simp at *; omega)).symm⟩
        · refine c_skip ?_
          refine c_region ?_
          refine l_l rfl rfl rfl ?_
          refine l_l rfl rfl rfl ?_
          refine l_nil ?_
          exact ⟨k + 1, ⟨by simp at *; omega, same_step hj (by simp at *; omega)⟩, by simp at *; omega, .cons (congrArg _ (succ_law (by omega))) .nil, (by repeat (first | exact Agree.refl _ _ | exact Agree.mix rfl | refine Agree.put rfl ?_ | refine Agree.keep rfl ?_)), fun _ h => h⟩
      · refine c_exit rfl ?_
        refine c_seq ?_
        refine c_region ?_
        refine l_l rfl rfl rfl ?_
        refine l_nil ?_
        refine c_ret ?_
        exact l_end0 (fun _ _ => rets_v rfl) ⟨rfl, congrArg _ (same_yes (by simp at *; omega) hj (by simp at *; omega)).symm⟩

theorem filled_fn (a : Option Addr) (cap : Nat) (b : List Int) (hm : b.length ≤ 140737488355328) (w : World) (hB : Ns w .u8 a b) :
    Does Try.prog 10 [.slice a b.length cap] w [] (fun v H => Lst .u8 (filled b) v H) := by
  refine does_of Try.func10 rfl rfl rfl (St.refl w) ?_
  refine c_seq ?_
  refine c_region ?_
  refine l_l rfl rfl rfl ?_
  refine l_nil ?_
  refine c_seq ?_
  refine c_region ?_
  refine l_x (x_make (k1 := .i64) (k2 := .i64) (el := 5) (n := 8192) (c := 8192) (a := 8192) (b := 8192) (s := 1) (z := [.int .u8 0]) ?_ ?_ ?_ ?_ ?_ ?_ ?_ ?_ ?_) ?_ ?_ ?_
  iterate 4 rfl
  · exact Nat.le_refl _
  iterate 6 rfl
  rintro _ _ ⟨b5, rfl, rfl⟩
  simp only [Nat.mul_one, repL_one, fillK_zero b]
  refine l_l rfl rfl rfl ?_
  refine l_nil ?_
  refine c_seq ?_
  refine c_seq ?_
  refine c_region ?_
  refine l_l rfl rfl rfl ?_
  refine l_l (by first | exact light_len rfl rfl | exact light_lens rfl rfl | rfl) rfl rfl ?_
  refine l_l rfl rfl rfl ?_
  refine l_nil ?_
  refine c_block ?_
  refine c_loop (σ := Nat) [4, 8, 9, 10, 11, 12, 13, 14, 15, 16, 17, 18, 19, 20, 21, 22, 23, 24, 25, 26, 27] (fun k => [(8, .int .i64 k)]) (fun k => [(b5, blk (fillK b k) 5)]) (fun k => k ≤ 8192) (fun k => 8192 - k) 0 ?_ ?_ ?_ ?_
  · show 0 ≤ 8192; omega
  · exact .cons rfl .nil
  · exact fun _ h => h
  · intro k y hk
    refine c_seq ?_
    refine c_region ?_
    refine l_l rfl rfl rfl ?_
    refine l_nil ?_
    refine c_seq ?_
    refine c_cond rfl (fun h1 => ?_) (fun h1 => ?_)
    · refine c_skip ?_
      refine c_seq ?_
      refine c_block ?_
      refine c_seq ?_
      refine c_region ?_
      refine l_l rfl rfl rfl ?_
      refine l_l rfl rfl rfl ?_
      refine l_nil ?_
      refine c_seq ?_
      refine c_region ?_
      refine l_l rfl rfl rfl ?_
      refine l_l (by first | exact light_len rfl rfl | exact light_lens rfl rfl | rfl) rfl rfl ?_
      refine l_l rfl rfl rfl ?_
      refine l_nil ?_
      refine c_cond rfl (fun h2 => ?_) (fun h2 => ?_)
      · obtain ⟨bb, off, rfl, hr⟩ := hB.row (i := (k + k / 97) % b.length) (Nat.mod_lt _ (by simp at *; omega))
        refine c_region ?_
        refine l_l rfl rfl rfl ?_
        refine l_l rfl rfl rfl ?_
        refine l_l rfl rfl rfl ?_
        refine l_l rfl rfl rfl ?_
        refine l_l rfl rfl rfl ?_
        refine l_l (quo_pos rfl rfl (by decide)) rfl rfl ?_
        refine l_l rfl rfl rfl ?_
        refine l_l rfl rfl rfl ?_
        refine l_l (by first | exact light_len rfl rfl | exact light_lens rfl rfl | rfl) rfl rfl ?_
        refine l_l (rem_pos rfl rfl (by have h0 : 0 < b.length := (by simp at *; omega); omega)) rfl rfl ?_
        refine l_l (idx_slice1 ((k + k / 97) % b.length) rfl rfl rfl (fill_law (by simp at *; omega)) (Nat.mod_lt _ (by simp at *; omega))) rfl rfl ?_
        refine l_x (x_load rfl rfl (at_old (hr.int (Nat.mod_lt _ (by simp at *; omega))) (by simp))) rfl rfl ?_
        rintro _ _ ⟨rfl, rfl⟩
        refine l_l (idx_slice0 k rfl rfl rfl rfl (by simp at *; omega)) rfl rfl ?_
        refine l_x (x_store 0 rfl rfl rfl rfl rfl rfl (by rw [fillK_len b (by omega)]; simp at *; omega)) rfl rfl ?_
        rintro _ _ ⟨rfl, rfl⟩
        refine l_nil ?_
        refine c_region ?_
        refine l_l rfl rfl rfl ?_
        refine l_l rfl rfl rfl ?_
        refine l_nil ?_
        exact ⟨k + 1, by simp at *; omega, by simp at *; omega, .cons (congrArg _ (succ_law (by omega))) .nil, (by repeat (first | exact Agree.refl _ _ | exact Agree.mix rfl | refine Agree.put rfl ?_ | refine Agree.keep rfl ?_)), fun w h => by have e := fill_step (b := b) (k := k) (by simp at *; omega) (by simp at *; omega); simp only [List.set_cons_zero] at h; rw [e] at h; exact h⟩
      · refine c_skip ?_
        refine c_region ?_
        refine l_l rfl rfl rfl ?_
        refine l_l rfl rfl rfl ?_
        refine l_nil ?_
        exact ⟨k + 1, by simp at *; omega, by simp at *; omega, .cons (congrArg _ (succ_law (by omega))) .nil, (by repeat (first | exact Agree.refl _ _ | exact Agree.mix rfl | refine Agree.put rfl ?_ | refine Agree.keep rfl ?_)), fun w h => by rw [← fillK_none b (by simp at *; omega) (by simp at *; omega)]; exact h⟩
    · refine c_exit rfl ?_
      refine c_seq ?_
      refine c_region ?_
      refine l_l rfl rfl rfl ?_
      refine l_l rfl rfl rfl ?_
      refine l_nil ?_
      refine c_ret ?_
      exact l_end (fun _ _ => rets_v rfl) (List.Sublist.refl _) (fill_end (by simp at *; omega))

end Go.Proofs.Ytmdcapafaiemgaa
