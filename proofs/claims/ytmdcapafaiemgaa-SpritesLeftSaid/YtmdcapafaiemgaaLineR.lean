/- The contracts of a line, as the document draws it. -/
import Derived.Test.YtmdcapafaiemgaaLineP
import Derived.Test.YtmdcapafaiemgaaUp
import Derived.Test.YtmdcapafaiemgaaTurn
import Derived.Test.YtmdcapafaiemgaaCalls
namespace Go.Proofs.Ytmdcapafaiemgaa
open Go Go.VV Go.Proofs
theorem upper_fn (c cb cf cs : Int) (hc : 0 ≤ c ∧ c < 256) (a a2 a3 : Option Addr) (cap cap2 cap3 : Nat) (l oam all : List Int) (hl : Byts l) (ho : Byts oam) (hall : ∀ n ∈ all, 0 ≤ n ∧ n < 40) (hlen : all.length ≤ 1000) (x line : Int)
    (w : World) (hB : Ns w .u8 a l) (hO : Ns w .u8 a2 oam) (hA : Ns w .i64 a3 all) :
    Does Try.prog 32 [.agg #[.int .u8 c, .int .u8 cb, .int .u8 cf, .int .u8 cs], .slice a l.length cap, .slice a2 oam.length cap2, .slice a3 all.length cap3, .int .i64 x, .int .i64 line] w [] (fun v H => H = [] ∧ v = .int .i64 (upper (qR l oam c x line) (fun n => oB oam n 1) all)) := by
  refine does_of Try.func32 rfl rfl rfl (St.refl w) ?_
  refine c_seq ?_
  refine c_region ?_
  refine l_x (x_box rfl rfl) rfl rfl ?_
  rintro _ _ ⟨b6, rfl, rfl⟩
  refine l_l rfl rfl rfl ?_
  refine l_nil ?_
  refine c_seq ?_
  refine c_region ?_
  refine l_l rfl rfl rfl ?_
  refine l_nil ?_
  refine c_seq ?_
  refine c_seq ?_
  refine c_region ?_
  refine l_l rfl rfl rfl ?_
  refine l_l (by first | exact light_len rfl rfl | exact light_lens rfl rfl | rfl) rfl rfl ?_
  refine l_l rfl rfl rfl ?_
  refine l_nil ?_
  refine c_block ?_
  refine c_loopk (σ := Nat) [13, 14, 15, 16, 19, 20, 21, 22, 23, 24, 25, 26, 27, 28, 29, 30, 31, 32, 33, 34, 35, 36, 37, 38, 39, 40, 41, 42, 43, 44, 45, 46, 47, 48, 49, 50, 51, 52, 53, 54, 55, 56] (fun k => [(13, .int .i64 (upper (qR l oam c x line) (fun n => oB oam n 1) (all.take k))), (19, .int .i64 k)]) (fun k => k ≤ all.length) (fun k => all.length - k) 0 ?_ ?_ ?_
  · exact Nat.zero_le _
  · exact .cons rfl (.cons rfl .nil)
  · intro k y hk
    refine c_seq ?_
    refine c_region ?_
    refine l_l rfl rfl rfl ?_
    refine l_nil ?_
    refine c_seq ?_
    refine c_cond rfl (fun h1 => ?_) (fun h1 => ?_)
    · refine c_skip ?_
      refine c_seq ?_
      refine c_block ?_
      refine c_seq ?_
      refine c_region ?_
      refine l_l rfl rfl rfl ?_
      refine l_l rfl rfl rfl ?_
      refine l_nil ?_
      refine c_seq ?_
      have hkn : k < all.length := by simp at *; omega
      obtain ⟨b3, o3, rfl, r3⟩ := hA.row (i := k) hkn
      refine c_draw _ [1, 2, 3, 4, 5, 6, 7, 8] (.step true 0 (.step true 1 (.step true 2 (.step true 3 (.step true 4 (.step true 5 (.step true 6 (.step true 7 (.step true 8 (.step false 9 (.step true 10 (.step true 11 (.step true 12 (.step true 13 (.step true 14 .done))))))))))))))) rfl (by kernel_rfl) (by kernel_rfl) (fun _ h => h) ?_
      refine d_loadA rfl rfl rfl rfl (srow_own (by repeat (first | exact .head _ | refine .tail _ ?_ | refine List.mem_append_right _ ?_))) rfl rfl ?_
      refine d_light rfl rfl rfl rfl rfl ?_
      refine d_light rfl rfl rfl rfl rfl ?_
      refine d_light rfl rfl rfl rfl rfl ?_
      refine d_light rfl rfl rfl rfl rfl ?_
      refine d_light rfl (idx_slice1 k rfl rfl rfl rfl hkn) rfl rfl rfl ?_
      refine d_load rfl rfl rfl (s_old (r3.int hkn) (by simp)) rfl rfl ?_
      refine d_light rfl rfl rfl rfl rfl ?_
      refine d_light rfl rfl rfl rfl rfl ?_
      refine d_x rfl (x_val call_12 rfl (fun w hw => rspdot_fn c cb cf cs hc _ _ _ _ l oam hl ho _ x line w (hB.later0 hw) (hO.later0 hw))) rfl rfl (by intro h; cases h) ?_
      rintro _ _ ⟨rfl, rfl⟩
      refine d_mv rfl (vnf_eq rfl) rfl rfl ?_
      refine d_light rfl rfl rfl rfl rfl ?_
      refine d_light rfl rfl rfl rfl rfl ?_
      refine d_light rfl rfl rfl rfl rfl ?_
      refine d_light rfl rfl rfl rfl rfl ?_
      refine d_nil ?_
      refine c_seq ?_
      refine c_region ?_
      refine l_l rfl rfl rfl ?_
      refine l_b rfl rfl rfl (fun h2 => ?_) (fun h2 => ?_)
      · refine l_l rfl rfl rfl ?_
        refine l_l rfl rfl rfl ?_
        refine l_b rfl rfl rfl (fun h3 => ?_) (fun h3 => ?_)
        · refine l_p rfl rfl ?_
          refine l_p rfl rfl ?_
          refine l_p rfl rfl ?_
          refine l_p rfl rfl ?_
          refine l_p rfl rfl ?_
          refine l_p rfl rfl ?_
          refine l_p rfl rfl ?_
          refine l_p rfl rfl ?_
          refine l_p rfl rfl ?_
          refine l_p rfl rfl ?_
          refine l_l rfl rfl rfl ?_
          refine l_l rfl rfl rfl ?_
          refine l_nil ?_
          refine c_true rfl ?_
          refine c_region ?_
          refine l_l rfl rfl rfl ?_
          refine l_l rfl rfl rfl ?_
          refine l_l (idx_slice1 k rfl rfl rfl rfl hkn) rfl rfl ?_
          refine l_x (x_load rfl rfl (at_old (r3.int hkn) (by simp))) rfl rfl ?_
          rintro _ _ ⟨rfl, rfl⟩
          refine l_l rfl rfl rfl ?_
          refine l_nil ?_
          refine c_region ?_
          refine l_l rfl rfl rfl ?_
          refine l_l rfl rfl rfl ?_
          refine l_nil ?_
          exact ⟨k + 1, by omega, by omega, .cons (congrArg _ (up_yes hkn h2 (.inl (by simpa using h3)))) (.cons (congrArg _ (succ_law (by omega))) .nil), (by repeat (first | exact Agree.refl _ _ | exact Agree.mix rfl | refine Agree.put rfl ?_ | refine Agree.keep rfl ?_)), fun _ h => h⟩
        · refine l_l rfl rfl rfl ?_
          refine l_l rfl rfl rfl ?_
          refine l_l rfl rfl rfl ?_
          refine l_l (idx_slice1 k rfl rfl rfl rfl hkn) rfl rfl ?_
          refine l_x (x_load rfl rfl (at_old (r3.int hkn) (by simp))) rfl rfl ?_
          rintro _ _ ⟨rfl, rfl⟩
          refine l_x (x_val call_22 rfl (fun w hw => oat_fn _ _ oam (all.getD k 0) 1 (hall _ (getD_mem hkn)) (by decide) ho w (hO.later0 hw))) rfl rfl ?_
          rintro _ _ ⟨rfl, rfl⟩
          refine l_l rfl rfl rfl ?_
          refine l_l rfl rfl rfl ?_
          refine l_x (x_val call_22 rfl (fun w hw => oat_fn _ _ oam (upper (qR l oam c x line) (fun n => oB oam n 1) (all.take k)) 1 (by have := up_range (q := qR l oam c x line) (xk := fun n => oB oam n 1) (take_range hall k); simp at *; omega) (by decide) ho w (hO.later0 hw))) rfl rfl ?_
          rintro _ _ ⟨rfl, rfl⟩
          refine l_l rfl rfl rfl ?_
          refine l_l rfl rfl rfl ?_
          refine l_l rfl rfl rfl ?_
          refine l_nil ?_
          refine c_cond rfl (fun h4 => ?_) (fun h4 => ?_)
          · refine c_region ?_
            refine l_l rfl rfl rfl ?_
            refine l_l rfl rfl rfl ?_
            refine l_l (idx_slice1 k rfl rfl rfl rfl hkn) rfl rfl ?_
            refine l_x (x_load rfl rfl (at_old (r3.int hkn) (by simp))) rfl rfl ?_
            rintro _ _ ⟨rfl, rfl⟩
            refine l_l rfl rfl rfl ?_
            refine l_nil ?_
            refine c_region ?_
            refine l_l rfl rfl rfl ?_
            refine l_l rfl rfl rfl ?_
            refine l_nil ?_
            exact ⟨k + 1, by omega, by omega, .cons (congrArg _ (up_yes hkn h2 (.inr (by simpa using h4)))) (.cons (congrArg _ (succ_law (by omega))) .nil), (by repeat (first | exact Agree.refl _ _ | exact Agree.mix rfl | refine Agree.put rfl ?_ | refine Agree.keep rfl ?_)), fun _ h => h⟩
          · refine c_skip ?_
            refine c_region ?_
            refine l_l rfl rfl rfl ?_
            refine l_l rfl rfl rfl ?_
            refine l_nil ?_
            exact ⟨k + 1, by omega, by omega, .cons (congrArg _ (up_no hkn (by simp at *; omega))) (.cons (congrArg _ (succ_law (by omega))) .nil), (by repeat (first | exact Agree.refl _ _ | exact Agree.mix rfl | refine Agree.put rfl ?_ | refine Agree.keep rfl ?_)), fun _ h => h⟩
      · refine l_p rfl rfl ?_
        refine l_p rfl rfl ?_
        refine l_p rfl rfl ?_
        refine l_p rfl rfl ?_
        refine l_p rfl rfl ?_
        refine l_p rfl rfl ?_
        refine l_p rfl rfl ?_
        refine l_p rfl rfl ?_
        refine l_p rfl rfl ?_
        refine l_p rfl rfl ?_
        refine l_p rfl rfl ?_
        refine l_p rfl rfl ?_
        refine l_p rfl rfl ?_
        refine l_p rfl rfl ?_
        refine l_l rfl rfl rfl ?_
        refine l_nil ?_
        refine c_false rfl ?_
        refine c_skip ?_
        refine c_region ?_
        refine l_l rfl rfl rfl ?_
        refine l_l rfl rfl rfl ?_
        refine l_nil ?_
        exact ⟨k + 1, by omega, by omega, .cons (congrArg _ (up_no hkn (by intro h0; have h1 := h0.1; rw [show qR l oam c x line (all.getD k 0) = false from h2] at h1; cases h1))) (.cons (congrArg _ (succ_law (by omega))) .nil), (by repeat (first | exact Agree.refl _ _ | exact Agree.mix rfl | refine Agree.put rfl ?_ | refine Agree.keep rfl ?_)), fun _ h => h⟩
    · refine c_exit rfl ?_
      refine c_seq ?_
      obtain rfl : k = all.length := by simp at *; omega
      rw [List.take_length]
      refine c_region ?_
      refine l_l rfl rfl rfl ?_
      refine l_l rfl rfl rfl ?_
      refine l_nil ?_
      refine c_ret ?_
      exact l_end0 (fun _ _ => rets_v rfl) ⟨rfl, rfl⟩

set_option maxRecDepth 100000 in
theorem rline_fn (c cb cf cs : Int) (hc : 0 ≤ c ∧ c < 256) (hcb : 0 ≤ cb ∧ cb < 256) (hcf : 0 ≤ cf ∧ cf < 256) (hcs : 0 ≤ cs ∧ cs < 256) (a a2 : Option Addr) (cap cap2 : Nat) (l oam : List Int) (hl : Byts l) (ho : Byts oam) (hcap : oam.length ≤ cap2) (line : Int) (bl : List Int) (hbl : bl.length = 160) (hbb : Byts bl)
    (w : World) (hB : Ns w .u8 a l) (hO : Ns w .u8 a2 oam) :
    Does Try.prog 18 [.agg #[.int .u8 c, .int .u8 cb, .int .u8 cf, .int .u8 cs], .slice a l.length cap, .slice a2 oam.length cap2, .int .i64 line, .agg (bl.map (.int .u8)).toArray] w [] (fun v H => H = [] ∧ v = .agg (lineL l oam c cb cf cs line bl).toArray) := by
  refine does_of Try.func18 rfl rfl rfl (St.refl w) ?_
  refine c_seq ?_
  refine c_region ?_
  refine l_x (x_box rfl rfl) rfl rfl ?_
  rintro _ _ ⟨b5, rfl, rfl⟩
  refine l_x (x_box (l := bl.map (.int .u8)) rfl rfl) rfl rfl ?_
  rintro _ _ ⟨b9, rfl, rfl⟩
  refine l_x (x_alloc (l := List.replicate 160 (.int .u8 0)) (by kernel_rfl)) rfl rfl ?_
  rintro _ _ ⟨b10, rfl, rfl⟩
  refine l_nil ?_
  refine c_seq ?_
  refine c_region ?_
  refine l_l (light_array (l := List.replicate 160 (.int .u8 0)) (z := List.replicate 160 (.int .u8 0)) (ps := []) (n := 160) (el := 5) (s := 1) (by kernel_rfl) (by kernel_rfl) (by kernel_rfl) (by kernel_rfl)) rfl rfl ?_
  refine l_x (x_alloc (l := List.replicate 160 (.int .u8 0)) (by kernel_rfl)) rfl rfl ?_
  rintro _ _ ⟨b11, rfl, rfl⟩
  refine l_x (x_store (vs := List.replicate 160 (.int .u8 0)) (l := List.replicate 160 (.int .u8 0)) 0 rfl rfl rfl (by kernel_rfl) (by kernel_rfl) rfl (by simp)) rfl rfl ?_
  rintro _ _ ⟨rfl, rfl⟩
  rw [List.set_cons_zero, putL_all (by simp)]
  refine l_nil ?_
  refine c_seq ?_
  refine c_region ?_
  refine l_x (x_loadA rfl rfl rfl (row_own (by repeat (first | exact .head _ | refine .tail _ ?_ | refine List.mem_append_right _ ?_)))) rfl rfl ?_
  rintro _ _ ⟨rfl, rfl⟩
  refine l_l rfl rfl rfl ?_
  refine l_l rfl rfl rfl ?_
  refine l_x (x_call call_15 rfl (fun w hw => rscan_fn c cb cf cs hc _ _ oam ho line hcap w (hO.later0 hw))) rfl rfl ?_
  rintro _ _ ⟨G22, ⟨a22, c22, rfl, hc22, hL22⟩, rfl⟩
  refine l_l rfl rfl rfl ?_
  refine l_nil ?_
  refine c_seq ?_
  refine c_seq ?_
  refine c_heap (fun w h => h.perm List.perm_append_comm) ?_
  refine c_region ?_
  refine l_l rfl rfl rfl ?_
  refine l_nil ?_
  refine c_block ?_
  refine c_loop (σ := Nat) [13, 14, 15, 16, 17, 23, 24, 25, 26, 27, 28, 29, 30, 31, 32, 33, 34, 35, 36, 37, 38, 39, 40, 41, 42, 43, 44, 45, 46, 47, 48, 49, 50, 51, 52, 53, 54, 55, 56, 57, 58, 59, 60, 61, 62, 63, 64, 65, 66, 67, 68, 69, 70, 71, 72, 73, 74, 75, 76, 77, 78, 79, 80, 81, 82, 83, 84, 85, 86, 87, 88] (fun k => [(23, .int .i64 k)]) (fun k => (b11, blk (upTo .u8 (refS l oam c cb cf cs line bl) 160 k) 36) :: (b10, blk (List.replicate 160 (.int .u8 0)) 36) :: (b9, blk (bl.map (.int .u8)) 36) :: (b5, blk [.int .u8 c, .int .u8 cb, .int .u8 cf, .int .u8 cs] 24) :: G22) (fun k => k ≤ 160) (fun k => 160 - k) 0 ?_ ?_ ?_ ?_
  · show 0 ≤ 160; omega
  · exact .cons rfl .nil
  · exact fun w h => by rw [← upTo_zero]; exact h
  · intro k y hk
    refine c_seq ?_
    refine c_region ?_
    refine l_l rfl rfl rfl ?_
    refine l_nil ?_
    refine c_seq ?_
    refine c_cond rfl (fun h1 => ?_) (fun h1 => ?_)
    · refine c_skip ?_
      refine c_seq ?_
      refine c_block ?_
      refine c_seq ?_
      refine c_region ?_
      refine l_l rfl rfl rfl ?_
      refine l_l rfl rfl rfl ?_
      refine l_nil ?_
      refine c_seq ?_
      have hk160 : k < 160 := by simp at *; omega
      refine c_draw _ [3, 4, 5] (.step true 0 (.step true 1 (.step true 2 (.step true 3 (.step true 4 (.step true 5 (.step false 6 (.step true 7 (.step false 8 .done))))))))) rfl (by kernel_rfl) (by kernel_rfl) (fun _ h => h) ?_
      refine d_light rfl rfl rfl rfl rfl ?_
      refine d_light rfl (light_fa rfl rfl) rfl rfl rfl ?_
      refine d_load rfl rfl rfl (s_own (by repeat (first | exact .head _ | refine .tail _ ?_ | refine List.mem_append_right _ ?_)) (by rfl)) rfl rfl ?_
      refine d_light rfl rfl rfl rfl rfl ?_
      refine d_light rfl (idx_array0 k rfl rfl rfl rfl hk160) rfl rfl rfl ?_
      refine d_load rfl rfl rfl (s_own (.tail _ (.tail _ (.head _))) (map_get (by omega))) rfl rfl ?_
      refine d_x rfl (x_val call_19 rfl (fun w hw => rshade_fn cb _ hcb (hbb.get k) w)) rfl rfl (by intro h; cases h) ?_
      rintro _ _ ⟨rfl, rfl⟩
      refine d_light rfl (idx_array0 k rfl rfl rfl rfl hk160) rfl rfl rfl ?_
      refine d_x rfl (x_store 0 rfl rfl rfl rfl rfl rfl (by rw [upTo_len (by simp at *; omega)]; simp at *; omega)) rfl rfl (by intro h; cases h) ?_
      rintro _ _ ⟨rfl, rfl⟩
      refine d_nil ?_
      refine c_seq ?_
      refine c_region ?_
      refine l_x (x_loadA rfl rfl rfl (row_own (by repeat (first | exact .head _ | refine .tail _ ?_ | refine List.mem_append_right _ ?_)))) rfl rfl ?_
      rintro _ _ ⟨rfl, rfl⟩
      refine l_l rfl rfl rfl ?_
      refine l_l rfl rfl rfl ?_
      refine l_l rfl rfl rfl ?_
      refine l_l rfl rfl rfl ?_
      refine l_l rfl rfl rfl ?_
      refine l_x (x_val call_32 rfl (fun w hw => upper_fn c cb cf cs hc _ _ _ _ _ _ l oam (scan oam c line) hl ho scan_range (by have := scan_ten oam c line; omega) (k : Int) line w (hB.later0 hw) (hO.later0 hw) (hL22.ns hw (by intro x hx; simp [hx])))) rfl rfl ?_
      rintro _ _ ⟨rfl, rfl⟩
      rw [show upper (qR l oam c (k : Int) line) (fun n => oB oam n 1) (scan oam c line) = (upS l oam c (k : Int) line) from rfl]
      refine l_l rfl rfl rfl ?_
      refine l_nil ?_
      refine c_seq ?_
      refine c_seq ?_
      refine c_region ?_
      refine l_l (light_fa rfl rfl) rfl rfl ?_
      refine l_x (x_load rfl rfl (at_own (by repeat (first | exact .head _ | refine .tail _ ?_ | refine List.mem_append_right _ ?_)) (by rfl))) rfl rfl ?_
      rintro _ _ ⟨rfl, rfl⟩
      refine l_x (x_val call_24 rfl (fun w hw => bit_fn _ _ hc ⟨by decide, by decide⟩ w)) rfl rfl ?_
      rintro _ _ ⟨rfl, rfl⟩
      refine l_l rfl rfl rfl ?_
      refine l_b rfl rfl rfl (fun h2 => ?_) (fun h2 => ?_)
      · refine l_p rfl rfl ?_
        refine l_p rfl rfl ?_
        refine l_l rfl rfl rfl ?_
        refine l_nil ?_
        refine c_true rfl ?_
        refine c_exit rfl ?_
        refine c_region ?_
        refine l_l rfl rfl rfl ?_
        refine l_l rfl rfl rfl ?_
        refine l_nil ?_
        exact ⟨k + 1, by omega, by omega, .cons (congrArg _ (succ_law (by omega))) .nil, (by repeat (first | exact Agree.refl _ _ | exact Agree.mix rfl | refine Agree.put rfl ?_ | refine Agree.keep rfl ?_)), fun w h => by rw [upTo_put (f := refS l oam c cb cf cs line bl) hk160 (shd cb (bl.getD k 0)) (ref_1 (.inl (by simpa using h2)))] at h; exact h⟩
      · refine l_l rfl rfl rfl ?_
        refine l_l rfl rfl rfl ?_
        refine l_l rfl rfl rfl ?_
        refine l_nil ?_
        refine c_cond rfl (fun h3 => ?_) (fun h3 => ?_)
        · refine c_exit rfl ?_
          refine c_region ?_
          refine l_l rfl rfl rfl ?_
          refine l_l rfl rfl rfl ?_
          refine l_nil ?_
          exact ⟨k + 1, by omega, by omega, .cons (congrArg _ (succ_law (by omega))) .nil, (by repeat (first | exact Agree.refl _ _ | exact Agree.mix rfl | refine Agree.put rfl ?_ | refine Agree.keep rfl ?_)), fun w h => by rw [upTo_put (f := refS l oam c cb cf cs line bl) hk160 (shd cb (bl.getD k 0)) (ref_1 (.inr (by simpa using h3)))] at h; exact h⟩
        · refine c_skip ?_
          refine c_seq ?_
          refine c_region ?_
          refine l_l rfl rfl rfl ?_
          refine l_l rfl rfl rfl ?_
          refine l_x (x_val call_22 rfl (fun w hw => oat_fn _ _ oam (upS l oam c (k : Int) line) 3 (by have := upS_range l oam c (k : Int) line; simp at *; omega) (by decide) ho w (hO.later0 hw))) rfl rfl ?_
          rintro _ _ ⟨rfl, rfl⟩
          refine l_as (v := (.int .u8 (oB oam (upS l oam c (k : Int) line) 3))) rfl rfl rfl (congrArg _ (by have := oB_byte ho (upS l oam c (k : Int) line) 3; exact wrap_u8_id (by omega) (by omega))) ?_
          refine l_l rfl rfl rfl ?_
          refine l_nil ?_
          refine c_seq ?_
          refine c_seq ?_
          refine c_region ?_
          refine l_l rfl rfl rfl ?_
          refine l_x (x_val call_24 rfl (fun w hw => bit_fn _ _ (oB_byte ho _ 3) ⟨by decide, by decide⟩ w)) rfl rfl ?_
          rintro _ _ ⟨rfl, rfl⟩
          refine l_l rfl rfl rfl ?_
          refine l_b rfl rfl rfl (fun h4 => ?_) (fun h4 => ?_)
          · refine l_l rfl rfl rfl ?_
            refine l_l (idx_array0 k rfl rfl rfl rfl hk160) rfl rfl ?_
            refine l_x (x_load rfl rfl (at_own (.tail _ (.tail _ (.head _))) (map_get (by omega)))) rfl rfl ?_
            rintro _ _ ⟨rfl, rfl⟩
            refine l_as (v := (.int .u8 (bl.getD k 0 % 4))) (rem_pos rfl rfl (by decide)) rfl rfl (congrArg _ (Int.tmod_eq_emod_of_nonneg (hbb.get k).1)) ?_
            refine l_l rfl rfl rfl ?_
            refine l_l rfl rfl rfl ?_
            refine l_nil ?_
            refine c_cond rfl (fun h5 => ?_) (fun h5 => ?_)
            · refine c_exit rfl ?_
              refine c_region ?_
              refine l_l rfl rfl rfl ?_
              refine l_l rfl rfl rfl ?_
              refine l_nil ?_
              exact ⟨k + 1, by omega, by omega, .cons (congrArg _ (succ_law (by omega))) .nil, (by repeat (first | exact Agree.refl _ _ | exact Agree.mix rfl | refine Agree.put rfl ?_ | refine Agree.keep rfl ?_)), fun w h => by rw [upTo_put (f := refS l oam c cb cf cs line bl) hk160 (shd cb (bl.getD k 0)) (ref_2 (by simp at *; omega) ⟨by simpa using h4, by simpa using h5⟩)] at h; exact h⟩
            · refine c_skip ?_
              refine c_seq ?_
              refine c_region ?_
              refine l_x (x_loadA rfl rfl rfl (row_own (by repeat (first | exact .head _ | refine .tail _ ?_ | refine List.mem_append_right _ ?_)))) rfl rfl ?_
              rintro _ _ ⟨rfl, rfl⟩
              refine l_l rfl rfl rfl ?_
              refine l_l rfl rfl rfl ?_
              refine l_l rfl rfl rfl ?_
              refine l_l rfl rfl rfl ?_
              refine l_l rfl rfl rfl ?_
              refine l_x (x_val call_12 rfl (fun w hw => rspdot_fn c cb cf cs hc _ _ _ _ l oam hl ho _ _ line w (hB.later0 hw) (hO.later0 hw))) rfl rfl ?_
              rintro _ _ ⟨rfl, rfl⟩
              refine l_l rfl rfl rfl ?_
              refine l_l rfl rfl rfl ?_
              refine l_l rfl rfl rfl ?_
              refine l_l rfl rfl rfl ?_
              refine l_l rfl rfl rfl ?_
              refine l_nil ?_
              refine c_seq ?_
              refine c_region ?_
              refine l_l rfl rfl rfl ?_
              refine l_x (x_val call_24 rfl (fun w hw => bit_fn _ _ (oB_byte ho _ 3) ⟨by decide, by decide⟩ w)) rfl rfl ?_
              rintro _ _ ⟨rfl, rfl⟩
              refine l_l rfl rfl rfl ?_
              refine l_nil ?_
              refine c_cond rfl (fun h6 => ?_) (fun h6 => ?_)
              · refine c_region ?_
                refine l_l rfl rfl rfl ?_
                refine l_l (light_fa rfl rfl) rfl rfl ?_
                refine l_x (x_load rfl rfl (at_own (by repeat (first | exact .head _ | refine .tail _ ?_ | refine List.mem_append_right _ ?_)) (by rfl))) rfl rfl ?_
                rintro _ _ ⟨rfl, rfl⟩
                refine l_l rfl rfl rfl ?_
                refine l_x (x_val call_19 rfl (fun w hw => rshade_fn cs _ hcs (by have := spDot_four l oam c (upS l oam c (k : Int) line) k line; omega) w)) rfl rfl ?_
                rintro _ _ ⟨rfl, rfl⟩
                refine l_l (idx_array0 k rfl rfl rfl rfl hk160) rfl rfl ?_
                refine l_x (x_store 0 rfl rfl rfl rfl rfl rfl (by rw [putL_len (by rw [upTo_len (by omega)]; exact hk160), upTo_len (by omega)]; exact hk160)) rfl rfl ?_
                rintro _ _ ⟨rfl, rfl⟩
                refine l_nil ?_
                refine c_region ?_
                refine l_l rfl rfl rfl ?_
                refine l_l rfl rfl rfl ?_
                refine l_nil ?_
                exact ⟨k + 1, by omega, by omega, .cons (congrArg _ (succ_law (by omega))) .nil, (by repeat (first | exact Agree.refl _ _ | exact Agree.mix rfl | refine Agree.put rfl ?_ | refine Agree.keep rfl ?_)), fun w h => by rw [putL_again (by rw [upTo_len (by omega)]; exact hk160), upTo_put (f := refS l oam c cb cf cs line bl) hk160 (shd cs (spDot l oam c (upS l oam c (k : Int) line) k line)) (ref_3 (b := true) (by simp at *; omega) (by intro h0; have h1 := h0.2; simp at h5; exact h1 h5) h6)] at h; exact h⟩
              · refine c_region ?_
                refine l_l rfl rfl rfl ?_
                refine l_l (light_fa rfl rfl) rfl rfl ?_
                refine l_x (x_load rfl rfl (at_own (by repeat (first | exact .head _ | refine .tail _ ?_ | refine List.mem_append_right _ ?_)) (by rfl))) rfl rfl ?_
                rintro _ _ ⟨rfl, rfl⟩
                refine l_l rfl rfl rfl ?_
                refine l_x (x_val call_19 rfl (fun w hw => rshade_fn cf _ hcf (by have := spDot_four l oam c (upS l oam c (k : Int) line) k line; omega) w)) rfl rfl ?_
                rintro _ _ ⟨rfl, rfl⟩
                refine l_l (idx_array0 k rfl rfl rfl rfl hk160) rfl rfl ?_
                refine l_x (x_store 0 rfl rfl rfl rfl rfl rfl (by rw [putL_len (by rw [upTo_len (by omega)]; exact hk160), upTo_len (by omega)]; exact hk160)) rfl rfl ?_
                rintro _ _ ⟨rfl, rfl⟩
                refine l_nil ?_
                refine c_region ?_
                refine l_l rfl rfl rfl ?_
                refine l_l rfl rfl rfl ?_
                refine l_nil ?_
                exact ⟨k + 1, by omega, by omega, .cons (congrArg _ (succ_law (by omega))) .nil, (by repeat (first | exact Agree.refl _ _ | exact Agree.mix rfl | refine Agree.put rfl ?_ | refine Agree.keep rfl ?_)), fun w h => by rw [putL_again (by rw [upTo_len (by omega)]; exact hk160), upTo_put (f := refS l oam c cb cf cs line bl) hk160 (shd cf (spDot l oam c (upS l oam c (k : Int) line) k line)) (ref_3 (b := false) (by simp at *; omega) (by intro h0; have h1 := h0.2; simp at h5; exact h1 h5) h6)] at h; exact h⟩
          · refine l_p rfl rfl ?_
            refine l_p rfl rfl ?_
            refine l_p rfl rfl ?_
            refine l_p rfl rfl ?_
            refine l_p rfl rfl ?_
            refine l_l rfl rfl rfl ?_
            refine l_nil ?_
            refine c_false rfl ?_
            refine c_skip ?_
            refine c_seq ?_
            refine c_region ?_
            refine l_x (x_loadA rfl rfl rfl (row_own (by repeat (first | exact .head _ | refine .tail _ ?_ | refine List.mem_append_right _ ?_)))) rfl rfl ?_
            rintro _ _ ⟨rfl, rfl⟩
            refine l_l rfl rfl rfl ?_
            refine l_l rfl rfl rfl ?_
            refine l_l rfl rfl rfl ?_
            refine l_l rfl rfl rfl ?_
            refine l_l rfl rfl rfl ?_
            refine l_x (x_val call_12 rfl (fun w hw => rspdot_fn c cb cf cs hc _ _ _ _ l oam hl ho _ _ line w (hB.later0 hw) (hO.later0 hw))) rfl rfl ?_
            rintro _ _ ⟨rfl, rfl⟩
            refine l_l rfl rfl rfl ?_
            refine l_l rfl rfl rfl ?_
            refine l_l rfl rfl rfl ?_
            refine l_l rfl rfl rfl ?_
            refine l_l rfl rfl rfl ?_
            refine l_nil ?_
            refine c_seq ?_
            refine c_region ?_
            refine l_l rfl rfl rfl ?_
            refine l_x (x_val call_24 rfl (fun w hw => bit_fn _ _ (oB_byte ho _ 3) ⟨by decide, by decide⟩ w)) rfl rfl ?_
            rintro _ _ ⟨rfl, rfl⟩
            refine l_l rfl rfl rfl ?_
            refine l_nil ?_
            refine c_cond rfl (fun h7 => ?_) (fun h7 => ?_)
            · refine c_region ?_
              refine l_l rfl rfl rfl ?_
              refine l_l (light_fa rfl rfl) rfl rfl ?_
              refine l_x (x_load rfl rfl (at_own (by repeat (first | exact .head _ | refine .tail _ ?_ | refine List.mem_append_right _ ?_)) (by rfl))) rfl rfl ?_
              rintro _ _ ⟨rfl, rfl⟩
              refine l_l rfl rfl rfl ?_
              refine l_x (x_val call_19 rfl (fun w hw => rshade_fn cs _ hcs (by have := spDot_four l oam c (upS l oam c (k : Int) line) k line; omega) w)) rfl rfl ?_
              rintro _ _ ⟨rfl, rfl⟩
              refine l_l (idx_array0 k rfl rfl rfl rfl hk160) rfl rfl ?_
              refine l_x (x_store 0 rfl rfl rfl rfl rfl rfl (by rw [putL_len (by rw [upTo_len (by omega)]; exact hk160), upTo_len (by omega)]; exact hk160)) rfl rfl ?_
              rintro _ _ ⟨rfl, rfl⟩
              refine l_nil ?_
              refine c_region ?_
              refine l_l rfl rfl rfl ?_
              refine l_l rfl rfl rfl ?_
              refine l_nil ?_
              exact ⟨k + 1, by omega, by omega, .cons (congrArg _ (succ_law (by omega))) .nil, (by repeat (first | exact Agree.refl _ _ | exact Agree.mix rfl | refine Agree.put rfl ?_ | refine Agree.keep rfl ?_)), fun w h => by rw [putL_again (by rw [upTo_len (by omega)]; exact hk160), upTo_put (f := refS l oam c cb cf cs line bl) hk160 (shd cs (spDot l oam c (upS l oam c (k : Int) line) k line)) (ref_3 (b := true) (by simp at *; omega) (by intro h0; have h1 := h0.1; simp at h4; exact h4 h1) h7)] at h; exact h⟩
            · refine c_region ?_
              refine l_l rfl rfl rfl ?_
              refine l_l (light_fa rfl rfl) rfl rfl ?_
              refine l_x (x_load rfl rfl (at_own (by repeat (first | exact .head _ | refine .tail _ ?_ | refine List.mem_append_right _ ?_)) (by rfl))) rfl rfl ?_
              rintro _ _ ⟨rfl, rfl⟩
              refine l_l rfl rfl rfl ?_
              refine l_x (x_val call_19 rfl (fun w hw => rshade_fn cf _ hcf (by have := spDot_four l oam c (upS l oam c (k : Int) line) k line; omega) w)) rfl rfl ?_
              rintro _ _ ⟨rfl, rfl⟩
              refine l_l (idx_array0 k rfl rfl rfl rfl hk160) rfl rfl ?_
              refine l_x (x_store 0 rfl rfl rfl rfl rfl rfl (by rw [putL_len (by rw [upTo_len (by omega)]; exact hk160), upTo_len (by omega)]; exact hk160)) rfl rfl ?_
              rintro _ _ ⟨rfl, rfl⟩
              refine l_nil ?_
              refine c_region ?_
              refine l_l rfl rfl rfl ?_
              refine l_l rfl rfl rfl ?_
              refine l_nil ?_
              exact ⟨k + 1, by omega, by omega, .cons (congrArg _ (succ_law (by omega))) .nil, (by repeat (first | exact Agree.refl _ _ | exact Agree.mix rfl | refine Agree.put rfl ?_ | refine Agree.keep rfl ?_)), fun w h => by rw [putL_again (by rw [upTo_len (by omega)]; exact hk160), upTo_put (f := refS l oam c cb cf cs line bl) hk160 (shd cf (spDot l oam c (upS l oam c (k : Int) line) k line)) (ref_3 (b := false) (by simp at *; omega) (by intro h0; have h1 := h0.1; simp at h4; exact h4 h1) h7)] at h; exact h⟩
    · refine c_exit rfl ?_
      refine c_seq ?_
      obtain rfl : k = 160 := by simp at *; omega
      refine c_region ?_
      refine l_x (x_loadA rfl rfl (by rw [upTo_len (Nat.le_refl _)]; rfl) (row_own (.head _))) rfl rfl ?_
      rintro _ _ ⟨rfl, rfl⟩
      refine l_x (x_store (vs := (upTo .u8 (refS l oam c cb cf cs line bl) 160 160)) (l := List.replicate 160 (.int .u8 0)) 1 rfl rfl rfl (by rw [upTo_len (Nat.le_refl _)]; rfl) (upTo_ones _ _ _ _) rfl (by rw [upTo_len (Nat.le_refl _)]; simp)) rfl rfl ?_
      rintro _ _ ⟨rfl, rfl⟩
      rw [putL_all (by rw [upTo_len (Nat.le_refl _)]; simp)]
      refine l_nil ?_
      refine c_ret ?_
      exact l_end0 (fun w hw => rets_cell (l := (upTo .u8 (refS l oam c cb cf cs line bl) 160 160)) rfl rfl (by rw [upTo_len (Nat.le_refl _)]; rfl) (row_own (.tail _ (.head _)) w hw)) ⟨rfl, by rw [upTo_all]; simp only [ref_eq]; rfl⟩

end Go.Proofs.Ytmdcapafaiemgaa
