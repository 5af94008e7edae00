/- The contracts of the loops: which sprites are seen. -/
import Derived.Test.YtjceoaomkbabmaaLeafB
import Derived.Test.YtjceoaomkbabmaaVvH
import Derived.Test.YtjceoaomkbabmaaCalls
namespace Go.Proofs.Ytjceoaomkbabmaa
open Go Go.VV Go.Proofs
set_option linter.unusedSimpArgs false
set_option linter.unusedVariables false
set_option maxRecDepth 100000
theorem scan_fn (c cb cf cs : Int) (hc : 0 ≤ c ∧ c < 256) (a2 : Option Addr) (cap2 : Nat) (oam : List Int) (ho : Byts oam) (line : Int) (hcap : oam.length ≤ cap2) (w : World) (hO : Ns w .u8 a2 oam) :
    Does Try.prog 58 [.agg #[.int .u8 c, .int .u8 cb, .int .u8 cf, .int .u8 cs], .slice a2 oam.length cap2, .int .i64 line] w [] (fun v H => Lst .i64 (scan oam c line) v H) := by
  refine does_of Try.func58 rfl rfl rfl (St.refl w) ?_
  refine c_seq ?_
  refine c_region ?_
  refine l_x (x_box rfl rfl) rfl rfl ?_
  rintro _ _ ⟨b3, rfl, rfl⟩
  refine l_l rfl rfl rfl ?_
  refine l_nil ?_
  refine c_seq ?_
  refine c_region ?_
  refine l_l rfl rfl rfl ?_
  refine l_nil ?_
  refine c_seq ?_
  refine c_seq ?_
  refine c_region ?_
  refine l_l rfl rfl rfl ?_
  refine l_nil ?_
  refine c_block ?_
  refine c_loop (σ := Nat × Value × Heap) [7, 8, 9, 10, 11, 12, 13, 14, 15, 16, 17, 18, 19, 20, 21, 22, 23, 24] (fun s => [(7, s.2.1), (9, .int .i64 s.1)]) (fun s => s.2.2 ++ [(b3, blk [.int .u8 c, .int .u8 cb, .int .u8 cf, .int .u8 cs] 74)]) (fun s => s.1 ≤ 40 ∧ Vec 3 1 s.2.1 (scanK oam c line s.1).length ((scanK oam c line s.1).map (.int .i64)) s.2.2) (fun s => 40 - s.1) (0, .slice none 0 0, []) ?_ ?_ ?_ ?_
  · exact ⟨by omega, vec_zero oam c line⟩
  · exact .cons rfl (.cons rfl .nil)
  · exact fun _ h => h
  · rintro ⟨k, v, G⟩ y ⟨hk, hV⟩
    have hlen := scanK_len oam c line k
    simp only at hk hV ⊢
    refine c_seq ?_
    refine c_region ?_
    refine l_l rfl rfl rfl ?_
    refine l_nil ?_
    refine c_seq ?_
    refine c_cond rfl (fun h1 => ?_) (fun h1 => ?_)
    · refine c_skip ?_
      refine c_seq ?_
      refine c_block ?_
      refine c_seq ?_
      refine c_region ?_
      refine l_l rfl rfl rfl ?_
      refine l_l rfl rfl rfl ?_
      refine l_nil ?_
      refine c_seq ?_
      refine c_draw _ [3, 4] (.step true 0 (.step true 1 (.step true 2 (.step true 5 (.step false 3 (.step true 4 (.step false 6 (.step false 7 .done)))))))) rfl (by kernel_rfl) (by kernel_rfl) (fun _ h => h) ?_
      refine d_light rfl rfl rfl rfl rfl ?_
      refine d_light rfl rfl rfl rfl rfl ?_
      refine d_light rfl rfl rfl rfl rfl ?_
      refine d_loadA rfl rfl rfl rfl (by first | exact srow_own (by repeat (first | exact .head _ | refine .tail _ ?_ | refine List.mem_append_right _ ?_)) | exact srow_own_at (by repeat (first | exact .head _ | refine .tail _ ?_ | refine List.mem_append_right _ ?_)) _ 4 rfl) rfl rfl ?_
      refine d_x rfl (x_val call_59 rfl (fun w hw => of_fn _ _ oam ho k (by simp at *; omega) hcap w (hO.later0 hw))) rfl rfl (by intro _ _ _ hK x hx; obtain ⟨rfl, rfl⟩ := hK; repeat (first | exact hx | exact List.mem_append_left _ hx | refine List.mem_append_right _ ?_ | refine .tail _ ?_)) ?_
      rintro _ _ ⟨rfl, rfl⟩
      refine d_light rfl (light_fs rfl rfl rfl rfl rfl) rfl rfl rfl ?_
      refine d_x rfl (x_val call_74 rfl (fun w hw => height_fn c cb cf cs hc w)) rfl rfl (by intro h; cases h) ?_
      rintro _ _ ⟨rfl, rfl⟩
      refine d_x rfl (x_val call_73 rfl (fun w hw => within_fn _ _ _ w)) rfl rfl (by intro h; cases h) ?_
      rintro _ _ ⟨rfl, rfl⟩
      refine d_nil ?_
      refine c_cond rfl (fun h2 => ?_) (fun h2 => ?_)
      · refine c_region ?_
        refine l_mv (v := v) rfl rfl rfl ?_
        refine l_l rfl rfl rfl ?_
        refine l_x (x_slc rfl rfl rfl rfl rfl rfl) rfl rfl ?_
        rintro _ _ ⟨b22, rfl, rfl⟩
        refine l_x (x_append (A := [_]) (G := G) (R := [_]) (v := v) (m := 1) (by_ := 8) rfl rfl rfl rfl hV (fun w hw => .row _ _ _ _ _ rfl (row_own (.head _) w hw)) rfl (by omega) (by omega)) rfl rfl ?_
        rintro v23 _ ⟨G', hV', hnil, rfl⟩
        refine l_as' (v := v23) rfl rfl rfl ?_
        refine l_nil ?_
        refine c_region ?_
        refine l_l rfl rfl rfl ?_
        refine l_l rfl rfl rfl ?_
        refine l_nil ?_
        exact ⟨(k + 1, v23, G'), ⟨by simp at *; omega, vec_yes (has_law ho h2) hV'⟩, by simp at *; omega, .cons rfl (.cons (congrArg _ (succ_law (by omega))) .nil), (by repeat (first | exact Agree.refl _ _ | exact Agree.mix rfl | refine Agree.put rfl ?_ | refine Agree.keep rfl ?_)), (fun _ h => h.sub (by first | exact List.Sublist.refl _ | exact (List.Sublist.refl _).append (List.sublist_append_right _ _) | exact List.sublist_append_right _ _ | exact List.sublist_cons_self _ _))⟩
      · refine c_skip ?_
        refine c_region ?_
        refine l_l rfl rfl rfl ?_
        refine l_l rfl rfl rfl ?_
        refine l_nil ?_
        exact ⟨(k + 1, v, G), ⟨by simp at *; omega, vec_no (has_law ho h2) hV⟩, by simp at *; omega, .cons rfl (.cons (congrArg _ (succ_law (by omega))) .nil), (by repeat (first | exact Agree.refl _ _ | exact Agree.mix rfl | refine Agree.put rfl ?_ | refine Agree.keep rfl ?_)), (fun _ h => h.sub (by first | exact List.Sublist.refl _ | exact (List.Sublist.refl _).append (List.sublist_append_right _ _) | exact List.sublist_append_right _ _ | exact List.sublist_cons_self _ _))⟩
    · refine c_exit rfl ?_
      refine c_seq ?_
      obtain rfl : k = 40 := by simp at *; omega
      generalize hm : (scanK oam c line 40).length = m at hV
      generalize hx : (scanK oam c line 40).map (Value.int .i64) = xs at hV
      clear hlen
      rcases hV with _ | ⟨b, n, cap, xs, sp, hn, hcc, hmx, hle⟩
      · refine c_region ?_
        refine l_l rfl rfl rfl ?_
        refine l_l rfl rfl rfl ?_
        refine l_l (by first | exact light_len rfl rfl | exact light_lens rfl rfl | rfl) rfl rfl ?_
        refine l_l (light_min rfl rfl) rfl rfl ?_
        refine l_l rfl rfl rfl ?_
        refine l_l rfl rfl rfl ?_
        refine l_nil ?_
        refine c_ret ?_
        exact l_end0 (fun _ _ => rets_v rfl) (scan_nil hm)
      · refine c_region ?_
        refine l_l rfl rfl rfl ?_
        refine l_l rfl rfl rfl ?_
        refine l_l (by first | exact light_len rfl rfl | exact light_lens rfl rfl | rfl) rfl rfl ?_
        refine l_l (light_min rfl rfl) rfl rfl ?_
        refine l_l (cut_slice1 0 (min m 10) rfl rfl rfl rfl rfl (by show min (m : Int) 10 = _; omega) (by omega) (by omega)) rfl rfl ?_
        refine l_l rfl rfl rfl ?_
        refine l_nil ?_
        refine c_ret ?_
        exact l_end (fun _ _ => rets_v rfl) (List.sublist_append_left _ _) (scan_row hm hx hle)

theorem rscan_fn (c cb cf cs : Int) (hc : 0 ≤ c ∧ c < 256) (a2 : Option Addr) (cap2 : Nat) (oam : List Int) (ho : Byts oam) (line : Int) (hcap : oam.length ≤ cap2) (w : World) (hO : Ns w .u8 a2 oam) :
    Does Try.prog 64 [.agg #[.int .u8 c, .int .u8 cb, .int .u8 cf, .int .u8 cs], .slice a2 oam.length cap2, .int .i64 line] w [] (fun v H => Lst .i64 (scan oam c line) v H) := by
  refine does_of Try.func64 rfl rfl rfl (St.refl w) ?_
  refine c_seq ?_
  refine c_region ?_
  refine l_x (x_box rfl rfl) rfl rfl ?_
  rintro _ _ ⟨b3, rfl, rfl⟩
  refine l_l rfl rfl rfl ?_
  refine l_nil ?_
  refine c_seq ?_
  refine c_region ?_
  refine l_l rfl rfl rfl ?_
  refine l_nil ?_
  refine c_seq ?_
  refine c_seq ?_
  refine c_region ?_
  refine l_l rfl rfl rfl ?_
  refine l_l rfl rfl rfl ?_
  refine l_b rfl rfl rfl (fun h1 => ?_) (fun h1 => ?_)
  · refine l_p rfl rfl ?_
    refine l_p rfl rfl ?_
    refine l_l rfl rfl rfl ?_
    refine l_nil ?_
    refine c_true rfl ?_
    refine c_seq ?_
    refine c_region ?_
    refine l_l rfl rfl rfl ?_
    refine l_nil ?_
    refine c_ret ?_
    exact l_end0 (fun _ _ => rets_v rfl) (by rw [scan_far ho (by simp at *; omega)]; exact .nil)
  · refine l_l rfl rfl rfl ?_
    refine l_l rfl rfl rfl ?_
    refine l_l rfl rfl rfl ?_
    refine l_nil ?_
    refine c_cond rfl (fun h2 => ?_) (fun h2 => ?_)
    · refine c_seq ?_
      refine c_region ?_
      refine l_l rfl rfl rfl ?_
      refine l_nil ?_
      refine c_ret ?_
      exact l_end0 (fun _ _ => rets_v rfl) (by rw [scan_far ho (by simp at *; omega)]; exact .nil)
    · refine c_skip ?_
      refine c_seq ?_
      refine c_seq ?_
      refine c_region ?_
      refine l_l rfl rfl rfl ?_
      refine l_nil ?_
      refine c_block ?_
      refine c_loop (σ := Nat × Value × Heap) [7, 8, 9, 16, 17, 18, 19, 20, 21, 22, 23, 24, 25, 26, 27, 28, 29, 30, 31, 32, 33, 34, 35, 36, 37, 38, 39, 40, 41, 42, 43] (fun s => [(7, s.2.1), (8, .int .i64 s.1)]) (fun s => s.2.2 ++ [(b3, blk [.int .u8 c, .int .u8 cb, .int .u8 cf, .int .u8 cs] 79)]) (fun s => s.1 ≤ 40 ∧ Vec 3 1 s.2.1 ((scanK oam c line s.1).take 10).length (((scanK oam c line s.1).take 10).map (.int .i64)) s.2.2) (fun s => 40 - s.1) (0, .slice none 0 0, []) ?_ ?_ ?_ ?_
      · exact ⟨by omega, rvec_zero oam c line⟩
      · exact .cons rfl (.cons rfl .nil)
      · exact fun _ h => h
      · rintro ⟨k, v, G⟩ y ⟨hk, hV⟩
        have hlen := scanK_len oam c line k
        simp only at hk hV ⊢
        obtain ⟨a7, c7, rfl⟩ := hV.slice
        have hl10 := List.length_take_le 10 (scanK oam c line k)
        refine c_seq ?_
        refine c_seq ?_
        refine c_region ?_
        refine l_l rfl rfl rfl ?_
        refine l_l rfl rfl rfl ?_
        refine l_nil ?_
        refine c_cond rfl (fun h3 => ?_) (fun h3 => ?_)
        · refine c_skip ?_
          refine c_seq ?_
          refine c_block ?_
          refine c_seq ?_
          refine c_region ?_
          refine l_l rfl rfl rfl ?_
          refine l_l rfl rfl rfl ?_
          refine l_x (x_val call_68 rfl (fun w hw => oat_fn _ _ oam k 0 (by simp at *; omega) (by decide) ho w (hO.later0 hw))) rfl rfl ?_
          rintro _ _ ⟨rfl, rfl⟩
          refine l_l rfl rfl rfl ?_
          refine l_l rfl rfl rfl ?_
          refine l_nil ?_
          refine c_seq ?_
          refine c_region ?_
          refine l_l rfl rfl rfl ?_
          refine l_l rfl rfl rfl ?_
          refine l_l rfl rfl rfl ?_
          refine l_b rfl rfl rfl (fun h4 => ?_) (fun h4 => ?_)
          · refine l_l rfl rfl rfl ?_
            refine l_l rfl rfl rfl ?_
            refine l_x (x_loadA rfl rfl rfl (by first | exact row_own (by repeat (first | exact .head _ | refine .tail _ ?_ | refine List.mem_append_right _ ?_)) | exact row_own_at (by repeat (first | exact .head _ | refine .tail _ ?_ | refine List.mem_append_right _ ?_)) _ 4 rfl)) rfl rfl ?_
            rintro _ _ ⟨rfl, rfl⟩
            refine l_x (x_val call_79 rfl (fun w hw => rheight_fn c cb cf cs hc w)) rfl rfl ?_
            rintro _ _ ⟨rfl, rfl⟩
            refine l_l rfl rfl rfl ?_
            refine l_l rfl rfl rfl ?_
            refine l_l rfl rfl rfl ?_
            refine l_b rfl rfl rfl (fun h5 => ?_) (fun h5 => ?_)
            · refine l_l rfl rfl rfl ?_
              refine l_l (by first | exact light_len rfl rfl | exact light_lens rfl rfl | rfl) rfl rfl ?_
              refine l_l rfl rfl rfl ?_
              refine l_l rfl rfl rfl ?_
              refine l_nil ?_
              refine c_cond rfl (fun h6 => ?_) (fun h6 => ?_)
              · refine c_region ?_
                refine l_l rfl rfl rfl ?_
                refine l_l rfl rfl rfl ?_
                refine l_x (x_slc rfl rfl rfl rfl rfl rfl) rfl rfl ?_
                rintro _ _ ⟨b42, rfl, rfl⟩
                refine l_x (x_append (A := [_]) (G := G) (R := [_]) (v := .slice a7 ((scanK oam c line k).take 10).length c7) (m := 1) (by_ := 8) rfl rfl rfl rfl hV (fun w hw => .row _ _ _ _ _ rfl (row_own (.head _) w hw)) rfl (by omega) (by omega)) rfl rfl ?_
                rintro v43 _ ⟨G', hV', hnil, rfl⟩
                refine l_as' (v := v43) rfl rfl rfl ?_
                refine l_nil ?_
                refine c_region ?_
                refine l_l rfl rfl rfl ?_
                refine l_l rfl rfl rfl ?_
                refine l_l rfl rfl rfl ?_
                refine l_nil ?_
                exact ⟨(k + 1, v43, G'), ⟨by simp at *; omega, rvec_yes (by rw [rhas_law ho]; simp at *; omega) (by simp at *; omega) hV'⟩, by simp at *; omega, .cons rfl (.cons (congrArg _ (succ_law (by omega))) .nil), (by repeat (first | exact Agree.refl _ _ | exact Agree.mix rfl | refine Agree.put rfl ?_ | refine Agree.keep rfl ?_)), (fun _ h => h.sub (by first | exact List.Sublist.refl _ | exact (List.Sublist.refl _).append (List.sublist_append_right _ _) | exact List.sublist_append_right _ _ | exact List.sublist_cons_self _ _))⟩
              · refine c_skip ?_
                refine c_region ?_
                refine l_l rfl rfl rfl ?_
                refine l_l rfl rfl rfl ?_
                refine l_l rfl rfl rfl ?_
                refine l_nil ?_
                exact ⟨(k + 1, _, G), ⟨by simp at *; omega, rvec_no (.inr (by simp at *; omega)) hV⟩, by simp at *; omega, .cons rfl (.cons (congrArg _ (succ_law (by omega))) .nil), (by repeat (first | exact Agree.refl _ _ | exact Agree.mix rfl | refine Agree.put rfl ?_ | refine Agree.keep rfl ?_)), (fun _ h => h.sub (by first | exact List.Sublist.refl _ | exact (List.Sublist.refl _).append (List.sublist_append_right _ _) | exact List.sublist_append_right _ _ | exact List.sublist_cons_self _ _))⟩
            · refine l_p rfl rfl ?_
              refine l_p rfl rfl ?_
              refine l_p rfl rfl ?_
              refine l_l rfl rfl rfl ?_
              refine l_nil ?_
              refine c_false rfl ?_
              refine c_skip ?_
              refine c_region ?_
              refine l_l rfl rfl rfl ?_
              refine l_l rfl rfl rfl ?_
              refine l_l rfl rfl rfl ?_
              refine l_nil ?_
              exact ⟨(k + 1, _, G), ⟨by simp at *; omega, rvec_no (.inl (by rw [rhas_law ho]; simp at *; omega)) hV⟩, by simp at *; omega, .cons rfl (.cons (congrArg _ (succ_law (by omega))) .nil), (by repeat (first | exact Agree.refl _ _ | exact Agree.mix rfl | refine Agree.put rfl ?_ | refine Agree.keep rfl ?_)), (fun _ h => h.sub (by first | exact List.Sublist.refl _ | exact (List.Sublist.refl _).append (List.sublist_append_right _ _) | exact List.sublist_append_right _ _ | exact List.sublist_cons_self _ _))⟩
          · refine l_p rfl rfl ?_
            refine l_p rfl rfl ?_
            refine l_p rfl rfl ?_
            refine l_p rfl rfl ?_
            refine l_p rfl rfl ?_
            refine l_p rfl rfl ?_
            refine l_l rfl rfl rfl ?_
            refine l_l rfl rfl rfl ?_
            refine l_p rfl rfl ?_
            refine l_p rfl rfl ?_
            refine l_p rfl rfl ?_
            refine l_l rfl rfl rfl ?_
            refine l_nil ?_
            refine c_false rfl ?_
            refine c_skip ?_
            refine c_region ?_
            refine l_l rfl rfl rfl ?_
            refine l_l rfl rfl rfl ?_
            refine l_l rfl rfl rfl ?_
            refine l_nil ?_
            exact ⟨(k + 1, _, G), ⟨by simp at *; omega, rvec_no (.inl (by rw [rhas_law ho]; simp at *; omega)) hV⟩, by simp at *; omega, .cons rfl (.cons (congrArg _ (succ_law (by omega))) .nil), (by repeat (first | exact Agree.refl _ _ | exact Agree.mix rfl | refine Agree.put rfl ?_ | refine Agree.keep rfl ?_)), (fun _ h => h.sub (by first | exact List.Sublist.refl _ | exact (List.Sublist.refl _).append (List.sublist_append_right _ _) | exact List.sublist_append_right _ _ | exact List.sublist_cons_self _ _))⟩
        · refine c_exit rfl ?_
          refine c_seq ?_
          refine c_region ?_
          refine l_l rfl rfl rfl ?_
          refine l_l rfl rfl rfl ?_
          refine l_nil ?_
          refine c_ret ?_
          obtain rfl : k = 40 := by simp at *; omega
          exact l_end (fun _ _ => rets_v rfl) (List.sublist_append_left _ _) (Lst.of_vec hV)

end Go.Proofs.Ytjceoaomkbabmaa
