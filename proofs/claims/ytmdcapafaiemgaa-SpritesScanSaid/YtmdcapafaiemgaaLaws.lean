/- The contracts of the laws: each returns true. -/
import Derived.Test.YtmdcapafaiemgaaScan
import Derived.Test.YtmdcapafaiemgaaVvI
namespace Go.Proofs.Ytmdcapafaiemgaa
open Go Go.VV Go.Proofs
theorem call_9 : callable Try.prog 9 = true := by kernel_rfl
theorem call_11 : callable Try.prog 11 = true := by kernel_rfl
theorem call_12 : callable Try.prog 12 = true := by kernel_rfl
theorem call_14 : callable Try.prog 14 = true := by kernel_rfl
theorem call_15 : callable Try.prog 15 = true := by kernel_rfl
theorem call_13 : callable Try.prog 13 = true := by kernel_rfl
theorem call_10 : callable Try.prog 10 = true := by kernel_rfl

theorem awake_fn (w : World) :
    Does Try.prog 9 [] w [] (fun v H => H = [] ∧ v = .bool true) := by
  refine does_of Try.func9 rfl rfl rfl (St.refl w) ?_
  refine c_seq ?_
  refine c_region ?_
  refine l_l rfl rfl rfl ?_
  refine l_nil ?_
  refine c_seq ?_
  refine c_region ?_
  refine l_x (x_slc rfl rfl rfl rfl rfl rfl) rfl rfl ?_
  rintro _ _ ⟨b5, rfl, rfl⟩
  refine l_l rfl rfl rfl ?_
  refine l_nil ?_
  refine c_seq ?_
  refine c_region ?_
  refine l_l (light_struct rfl rfl rfl rfl) rfl rfl ?_
  refine l_x (x_slc rfl rfl rfl rfl rfl rfl) rfl rfl ?_
  rintro _ _ ⟨b8, rfl, rfl⟩
  refine l_l rfl rfl rfl ?_
  refine l_x (x_val call_11 rfl (fun w hw => spdot_fn 0 0 0 0 (by decide) _ _ _ _ [128] [16, 8, 0, 0] (by unfold Byts; decide) (by unfold Byts; decide) 0 0 0 (by decide) w (Ns.of (row_own (by repeat (first | exact .head _ | refine .tail _ ?_ | refine List.mem_append_right _ ?_)) w hw)) (Ns.of (row_own (by repeat (first | exact .head _ | refine .tail _ ?_ | refine List.mem_append_right _ ?_)) w hw)))) rfl rfl ?_
  rintro _ _ ⟨rfl, rfl⟩
  refine l_l rfl rfl rfl ?_
  refine l_l rfl rfl rfl ?_
  refine l_l rfl rfl rfl ?_
  refine l_l rfl rfl rfl ?_
  refine l_l rfl rfl rfl ?_
  refine l_nil ?_
  refine c_seq ?_
  refine c_region ?_
  refine l_l (light_struct rfl rfl rfl rfl) rfl rfl ?_
  refine l_l rfl rfl rfl ?_
  refine l_x (x_call call_14 rfl (fun w hw => scan_fn 0 0 0 0 (by decide) _ _ [16, 8, 0, 0] (by unfold Byts; decide) 7 (by decide) w (Ns.of (row_own (by repeat (first | exact .head _ | refine .tail _ ?_ | refine List.mem_append_right _ ?_)) w hw)))) rfl rfl ?_
  rintro _ _ ⟨G15, ⟨a15, c15, rfl, hc15, hL15⟩, rfl⟩
  obtain ⟨b16, o16, rfl, hr16⟩ := hL15.row (i := 0) (by decide +kernel)
  refine l_l rfl rfl rfl ?_
  refine l_nil ?_
  refine c_seq ?_
  refine c_region ?_
  refine l_l rfl rfl rfl ?_
  refine l_sure true rfl rfl rfl (by decide +kernel) ?_
  refine l_l rfl rfl rfl ?_
  refine l_sure true rfl rfl rfl (by decide +kernel) ?_
  refine l_l rfl rfl rfl ?_
  refine l_l rfl rfl rfl ?_
  refine l_l rfl rfl rfl ?_
  refine l_l (by first | exact light_len rfl rfl | exact light_lens rfl rfl | rfl) rfl rfl ?_
  refine l_sure true rfl rfl rfl (by decide +kernel) ?_
  refine l_l rfl rfl rfl ?_
  refine l_l rfl rfl rfl ?_
  refine l_l rfl rfl rfl ?_
  refine l_l (idx_slice1 0 rfl rfl rfl rfl (by decide +kernel)) rfl rfl ?_
  refine l_x (x_load rfl rfl (at_gives hr16 (by intro x hx; simp [hx]) (by decide +kernel))) rfl rfl ?_
  rintro _ _ ⟨rfl, rfl⟩
  refine l_sure true rfl rfl rfl (by decide +kernel) ?_
  refine l_l rfl rfl rfl ?_
  refine l_l rfl rfl rfl ?_
  refine l_nil ?_
  refine c_ret ?_
  exact l_end0 (fun _ _ => rets_v rfl) ⟨rfl, rfl⟩

theorem spritesScan_fn (w : World) (a : Option Addr) (cap : Nat) (b : List Int) (hb : Byts b) (hB : Ns w .u8 a b) (a2 : Option Addr) (cap2 : Nat) (oam : List Int) (ho : Byts oam) (hcap : oam.length ≤ cap2) (hO : Ns w .u8 a2 oam)
    (c cb cf cs : Int) (hc : 0 ≤ c ∧ c < 256) (n x line : Int) :
    Does Try.prog 3 [.slice a b.length cap, .slice a2 oam.length cap2, .agg #[.int .u8 c, .int .u8 cb, .int .u8 cf, .int .u8 cs], .int .i64 n, .int .i64 x, .int .i64 line] w [] (fun v H => H = [] ∧ v = .bool true) := by
  refine does_of Try.func3 rfl rfl rfl (St.refl w) ?_
  refine c_seq ?_
  refine c_region ?_
  refine l_x (x_box rfl rfl) rfl rfl ?_
  rintro _ _ ⟨b8, rfl, rfl⟩
  refine l_l rfl rfl rfl ?_
  refine l_nil ?_
  refine c_seq ?_
  refine c_seq ?_
  refine c_region ?_
  refine l_x (x_val call_9 rfl (fun w hw => awake_fn w)) rfl rfl ?_
  rintro _ _ ⟨rfl, rfl⟩
  refine l_l rfl rfl rfl ?_
  refine l_l rfl rfl rfl ?_
  refine l_l rfl rfl rfl ?_
  refine l_l (by first | exact light_len rfl rfl | exact light_lens rfl rfl | rfl) rfl rfl ?_
  refine l_l rfl rfl rfl ?_
  refine l_l rfl rfl rfl ?_
  refine l_b rfl rfl rfl (fun h1 => ?_) (fun h1 => ?_)
  · refine l_p rfl rfl ?_
    refine l_p rfl rfl ?_
    refine l_p rfl rfl ?_
    refine l_l rfl rfl rfl ?_
    refine l_nil ?_
    refine c_true rfl ?_
    refine c_seq ?_
    refine c_region ?_
    refine l_x (x_val call_9 rfl (fun w hw => awake_fn w)) rfl rfl ?_
    rintro _ _ ⟨rfl, rfl⟩
    refine l_l rfl rfl rfl ?_
    refine l_nil ?_
    refine c_ret ?_
    exact l_end0 (fun _ _ => rets_v rfl) ⟨rfl, rfl⟩
  · refine l_l rfl rfl rfl ?_
    refine l_l (by first | exact light_len rfl rfl | exact light_lens rfl rfl | rfl) rfl rfl ?_
    refine l_l rfl rfl rfl ?_
    refine l_l rfl rfl rfl ?_
    refine l_nil ?_
    refine c_cond rfl (fun h2 => ?_) (fun h2 => ?_)
    · refine c_seq ?_
      refine c_region ?_
      refine l_x (x_val call_9 rfl (fun w hw => awake_fn w)) rfl rfl ?_
      rintro _ _ ⟨rfl, rfl⟩
      refine l_l rfl rfl rfl ?_
      refine l_nil ?_
      refine c_ret ?_
      exact l_end0 (fun _ _ => rets_v rfl) ⟨rfl, rfl⟩
    · refine c_skip ?_
      refine c_seq ?_
      refine c_region ?_
      refine l_l rfl rfl rfl ?_
      refine l_x (x_call call_10 rfl (fun w hw => filled_fn _ _ b (by simp at *; omega) w (hB.later0 hw))) rfl rfl ?_
      rintro _ _ ⟨G33, ⟨a33, c33, rfl, hc33, hL33⟩, rfl⟩
      refine l_l rfl rfl rfl ?_
      refine l_nil ?_
      refine c_seq ?_
      refine c_region ?_
      refine l_x (x_loadA rfl rfl rfl (row_own (by repeat (first | exact .head _ | refine .tail _ ?_ | refine List.mem_append_right _ ?_)))) rfl rfl ?_
      rintro _ _ ⟨rfl, rfl⟩
      refine l_x (x_alloc rfl) rfl rfl ?_
      rintro _ _ ⟨b14, rfl, rfl⟩
      refine l_x (by first | exact x_store 0 rfl rfl rfl rfl rfl rfl (by first | rfl | exact Nat.le_of_ble_eq_true rfl | (simp; done)) | exact x_store 1 rfl rfl rfl rfl rfl rfl (by first | rfl | exact Nat.le_of_ble_eq_true rfl | (simp; done)) | exact x_store 2 rfl rfl rfl rfl rfl rfl (by first | rfl | exact Nat.le_of_ble_eq_true rfl | (simp; done)) | exact x_store 3 rfl rfl rfl rfl rfl rfl (by first | rfl | exact Nat.le_of_ble_eq_true rfl | (simp; done))) rfl rfl ?_
      rintro _ _ ⟨rfl, rfl⟩
      refine l_nil ?_
      refine c_seq ?_
      refine c_region ?_
      refine l_x (x_loadA rfl rfl rfl (row_own (by repeat (first | exact .head _ | refine .tail _ ?_ | refine List.mem_append_right _ ?_)))) rfl rfl ?_
      rintro _ _ ⟨rfl, rfl⟩
      refine l_l rfl rfl rfl ?_
      refine l_l rfl rfl rfl ?_
      refine l_l rfl rfl rfl ?_
      refine l_l rfl rfl rfl ?_
      refine l_l rfl rfl rfl ?_
      refine l_x (x_val call_11 rfl (fun w hw => spdot_fn c cb cf cs hc _ _ _ _ (filled b) oam (filled_byts hb) ho n x line hcap w (hL33.ns hw (by intro x hx; simp [hx])) (hO.later0 hw))) rfl rfl ?_
      rintro _ _ ⟨rfl, rfl⟩
      refine l_l rfl rfl rfl ?_
      refine l_l rfl rfl rfl ?_
      refine l_l rfl rfl rfl ?_
      refine l_l rfl rfl rfl ?_
      refine l_l rfl rfl rfl ?_
      refine l_nil ?_
      refine c_seq ?_
      refine c_region ?_
      refine l_x (x_loadA rfl rfl rfl (row_own (by repeat (first | exact .head _ | refine .tail _ ?_ | refine List.mem_append_right _ ?_)))) rfl rfl ?_
      rintro _ _ ⟨rfl, rfl⟩
      refine l_l rfl rfl rfl ?_
      refine l_l rfl rfl rfl ?_
      refine l_l rfl rfl rfl ?_
      refine l_l rfl rfl rfl ?_
      refine l_l rfl rfl rfl ?_
      refine l_x (x_val call_12 rfl (fun w hw => rspdot_fn c cb cf cs hc _ _ _ _ (filled b) oam (filled_byts hb) ho n x line w (hL33.ns hw (by intro x hx; simp [hx])) (hO.later0 hw))) rfl rfl ?_
      rintro _ _ ⟨rfl, rfl⟩
      refine l_l rfl rfl rfl ?_
      refine l_l rfl rfl rfl ?_
      refine l_l rfl rfl rfl ?_
      refine l_l rfl rfl rfl ?_
      refine l_l rfl rfl rfl ?_
      refine l_nil ?_
      refine c_seq ?_
      refine c_draw _ [1, 2, 3, 4, 5, 6, 7, 8, 11, 16] [(true, 0), (true, 1), (true, 2), (true, 4), (true, 5), (true, 6), (false, 3), (false, 7), (false, 8), (true, 9), (true, 10), (true, 11), (true, 12), (true, 13), (true, 14), (true, 15), (true, 16), (true, 17), (true, 18), (true, 19)] rfl (by kernel_rfl) rfl (by kernel_rfl) (fun _ h => h) ?_
      refine d_loadA rfl rfl rfl rfl (srow_own (by repeat (first | exact .head _ | refine .tail _ ?_ | refine List.mem_append_right _ ?_))) rfl rfl ?_
      refine d_light rfl rfl rfl rfl rfl ?_
      refine d_light rfl rfl rfl rfl rfl ?_
      refine d_loadA rfl rfl rfl rfl (srow_own (by repeat (first | exact .head _ | refine .tail _ ?_ | refine List.mem_append_right _ ?_))) rfl rfl ?_
      refine d_light rfl rfl rfl rfl rfl ?_
      refine d_light rfl rfl rfl rfl rfl ?_
      refine d_x rfl (x_call call_14 rfl (fun w hw => scan_fn c cb cf cs hc _ _ oam ho line hcap w (hO.later0 hw))) rfl rfl (by intro _ _ _ hK x hx; obtain ⟨G58, ⟨a58, c58, rfl, hc58, hL58⟩, rfl⟩ := hK; repeat (first | exact hx | refine List.mem_append_right _ ?_ | refine .tail _ ?_)) ?_
      rintro _ _ ⟨G58, ⟨a58, c58, rfl, hc58, hL58⟩, rfl⟩
      refine d_x rfl (x_call call_15 rfl (fun w hw => rscan_fn c cb cf cs hc _ _ oam ho line hcap w (hO.later0 hw))) rfl rfl (by intro _ _ _ hK x hx; obtain ⟨G62, ⟨a62, c62, rfl, hc62, hL62⟩, rfl⟩ := hK; repeat (first | exact hx | refine List.mem_append_right _ ?_ | refine .tail _ ?_)) ?_
      rintro _ _ ⟨G62, ⟨a62, c62, rfl, hc62, hL62⟩, rfl⟩
      refine d_x rfl (x_val call_13 rfl (fun w hw => same_fn _ _ _ _ (scan oam c line) (scan oam c line) (by rw [scan_len]; omega) w (hL58.ns hw (by intro x hx; simp [hx])) (hL62.ns hw (by intro x hx; simp [hx])))) rfl rfl (by intro _ _ _ hK x hx; obtain ⟨rfl, rfl⟩ := hK; repeat (first | exact hx | refine List.mem_append_right _ ?_ | refine .tail _ ?_)) ?_
      rintro _ _ ⟨rfl, rfl⟩
      refine d_sure true rfl rfl rfl rfl (by simp) ?_
      refine d_light rfl rfl rfl rfl rfl ?_
      refine d_light rfl rfl rfl rfl rfl ?_
      refine d_sure true rfl rfl rfl rfl (by simp) ?_
      refine d_light rfl rfl rfl rfl rfl ?_
      refine d_light rfl rfl rfl rfl rfl ?_
      refine d_light rfl rfl rfl rfl rfl ?_
      refine d_light rfl rfl rfl rfl rfl ?_
      refine d_sure true rfl (light_eqb rfl rfl rfl) rfl rfl (by simp) ?_
      refine d_light rfl rfl rfl rfl rfl ?_
      refine d_light rfl rfl rfl rfl rfl ?_
      refine d_nil ?_
      refine c_ret ?_
      exact l_end0 (fun _ _ => rets_v rfl) ⟨rfl, rfl⟩

end Go.Proofs.Ytmdcapafaiemgaa
