/- The contracts of the laws: each returns true. -/
import Derived.Test.YtmdcapafaiemgaaScan
import Derived.Test.YtmdcapafaiemgaaTen
import Derived.Test.YtmdcapafaiemgaaTurn
import Derived.Test.YtmdcapafaiemgaaVvI
import Derived.Test.YtmdcapafaiemgaaCalls
namespace Go.Proofs.Ytmdcapafaiemgaa
open Go Go.VV Go.Proofs

theorem awake_fn (w : World) :
    Does Try.prog 9 [] w [] (fun v H => H = [] ∧ v = .bool true) := by
  refine does_of Try.func9 rfl rfl rfl (St.refl w) ?_
  refine c_seq ?_
  refine c_region ?_
  refine l_l rfl rfl rfl ?_
  refine l_nil ?_
  refine c_seq ?_
  refine c_region ?_
  refine l_x (x_slc rfl rfl rfl rfl rfl rfl) rfl rfl ?_
  rintro _ _ ⟨b5, rfl, rfl⟩
  refine l_l rfl rfl rfl ?_
  refine l_nil ?_
  refine c_seq ?_
  refine c_region ?_
  refine l_l (light_struct rfl rfl rfl rfl) rfl rfl ?_
  refine l_x (x_slc rfl rfl rfl rfl rfl rfl) rfl rfl ?_
  rintro _ _ ⟨b8, rfl, rfl⟩
  refine l_l rfl rfl rfl ?_
  refine l_x (x_val call_11 rfl (fun w hw => spdot_fn 0 0 0 0 (by decide) _ _ _ _ [128] [16, 8, 0, 0] (by unfold Byts; decide) (by unfold Byts; decide) 0 0 0 (by decide) w (Ns.of (row_own (by repeat (first | exact .head _ | refine .tail _ ?_ | refine List.mem_append_right _ ?_)) w hw)) (Ns.of (row_own (by repeat (first | exact .head _ | refine .tail _ ?_ | refine List.mem_append_right _ ?_)) w hw)))) rfl rfl ?_
  rintro _ _ ⟨rfl, rfl⟩
  refine l_l rfl rfl rfl ?_
  refine l_l rfl rfl rfl ?_
  refine l_l rfl rfl rfl ?_
  refine l_l rfl rfl rfl ?_
  refine l_l rfl rfl rfl ?_
  refine l_nil ?_
  refine c_seq ?_
  refine c_region ?_
  refine l_l (light_struct rfl rfl rfl rfl) rfl rfl ?_
  refine l_l rfl rfl rfl ?_
  refine l_x (x_call call_14 rfl (fun w hw => scan_fn 0 0 0 0 (by decide) _ _ [16, 8, 0, 0] (by unfold Byts; decide) 7 (by decide) w (Ns.of (row_own (by repeat (first | exact .head _ | refine .tail _ ?_ | refine List.mem_append_right _ ?_)) w hw)))) rfl rfl ?_
  rintro _ _ ⟨G15, ⟨a15, c15, rfl, hc15, hL15⟩, rfl⟩
  obtain ⟨b16, o16, rfl, hr16⟩ := hL15.row (i := 0) (by decide +kernel)
  refine l_l rfl rfl rfl ?_
  refine l_nil ?_
  refine c_seq ?_
  refine c_region ?_
  refine l_l rfl rfl rfl ?_
  refine l_sure true rfl rfl rfl (by decide +kernel) ?_
  refine l_l rfl rfl rfl ?_
  refine l_sure true rfl rfl rfl (by decide +kernel) ?_
  refine l_l rfl rfl rfl ?_
  refine l_l rfl rfl rfl ?_
  refine l_l rfl rfl rfl ?_
  refine l_l (by first | exact light_len rfl rfl | exact light_lens rfl rfl | rfl) rfl rfl ?_
  refine l_sure true rfl rfl rfl (by decide +kernel) ?_
  refine l_l rfl rfl rfl ?_
  refine l_l rfl rfl rfl ?_
  refine l_l rfl rfl rfl ?_
  refine l_l (idx_slice1 0 rfl rfl rfl rfl (by decide +kernel)) rfl rfl ?_
  refine l_x (x_load rfl rfl (at_gives hr16 (by intro x hx; simp [hx]) (by decide +kernel))) rfl rfl ?_
  rintro _ _ ⟨rfl, rfl⟩
  refine l_sure true rfl rfl rfl (by decide +kernel) ?_
  refine l_l rfl rfl rfl ?_
  refine l_l rfl rfl rfl ?_
  refine l_nil ?_
  refine c_ret ?_
  exact l_end0 (fun _ _ => rets_v rfl) ⟨rfl, rfl⟩

theorem spritesScan_fn (w : World) (a : Option Addr) (cap : Nat) (b : List Int) (hb : Byts b) (hB : Ns w .u8 a b) (a2 : Option Addr) (cap2 : Nat) (oam : List Int) (ho : Byts oam) (hcap : oam.length ≤ cap2) (hO : Ns w .u8 a2 oam)
    (c cb cf cs : Int) (hc : 0 ≤ c ∧ c < 256) (n x line : Int) :
    Does Try.prog 3 [.slice a b.length cap, .slice a2 oam.length cap2, .agg #[.int .u8 c, .int .u8 cb, .int .u8 cf, .int .u8 cs], .int .i64 n, .int .i64 x, .int .i64 line] w [] (fun v H => H = [] ∧ v = .bool true) := by
  refine does_of Try.func3 rfl rfl rfl (St.refl w) ?_
  refine c_seq ?_
  refine c_region ?_
  refine l_x (x_box rfl rfl) rfl rfl ?_
  rintro _ _ ⟨b8, rfl, rfl⟩
  refine l_l rfl rfl rfl ?_
  refine l_nil ?_
  refine c_seq ?_
  refine c_seq ?_
  refine c_region ?_
  refine l_x (x_val call_9 rfl (fun w hw => awake_fn w)) rfl rfl ?_
  rintro _ _ ⟨rfl, rfl⟩
  refine l_l rfl rfl rfl ?_
  refine l_l rfl rfl rfl ?_
  refine l_l rfl rfl rfl ?_
  refine l_l (by first | exact light_len rfl rfl | exact light_lens rfl rfl | rfl) rfl rfl ?_
  refine l_l rfl rfl rfl ?_
  refine l_l rfl rfl rfl ?_
  refine l_b rfl rfl rfl (fun h1 => ?_) (fun h1 => ?_)
  · refine l_p rfl rfl ?_
    refine l_p rfl rfl ?_
    refine l_p rfl rfl ?_
    refine l_l rfl rfl rfl ?_
    refine l_nil ?_
    refine c_true rfl ?_
    refine c_seq ?_
    refine c_region ?_
    refine l_x (x_val call_9 rfl (fun w hw => awake_fn w)) rfl rfl ?_
    rintro _ _ ⟨rfl, rfl⟩
    refine l_l rfl rfl rfl ?_
    refine l_nil ?_
    refine c_ret ?_
    exact l_end0 (fun _ _ => rets_v rfl) ⟨rfl, rfl⟩
  · refine l_l rfl rfl rfl ?_
    refine l_l (by first | exact light_len rfl rfl | exact light_lens rfl rfl | rfl) rfl rfl ?_
    refine l_l rfl rfl rfl ?_
    refine l_l rfl rfl rfl ?_
    refine l_nil ?_
    refine c_cond rfl (fun h2 => ?_) (fun h2 => ?_)
    · refine c_seq ?_
      refine c_region ?_
      refine l_x (x_val call_9 rfl (fun w hw => awake_fn w)) rfl rfl ?_
      rintro _ _ ⟨rfl, rfl⟩
      refine l_l rfl rfl rfl ?_
      refine l_nil ?_
      refine c_ret ?_
      exact l_end0 (fun _ _ => rets_v rfl) ⟨rfl, rfl⟩
    · refine c_skip ?_
      refine c_seq ?_
      refine c_region ?_
      refine l_l rfl rfl rfl ?_
      refine l_x (x_call call_10 rfl (fun w hw => filled_fn _ _ b (by simp at *; omega) w (hB.later0 hw))) rfl rfl ?_
      rintro _ _ ⟨G33, ⟨a33, c33, rfl, hc33, hL33⟩, rfl⟩
      refine l_l rfl rfl rfl ?_
      refine l_nil ?_
      refine c_seq ?_
      refine c_region ?_
      refine l_x (x_loadA rfl rfl rfl (row_own (by repeat (first | exact .head _ | refine .tail _ ?_ | refine List.mem_append_right _ ?_)))) rfl rfl ?_
      rintro _ _ ⟨rfl, rfl⟩
      refine l_x (x_alloc rfl) rfl rfl ?_
      rintro _ _ ⟨b14, rfl, rfl⟩
      refine l_x (by first | exact x_store 0 rfl rfl rfl rfl rfl rfl (by first | rfl | exact Nat.le_of_ble_eq_true rfl | (simp; done)) | exact x_store 1 rfl rfl rfl rfl rfl rfl (by first | rfl | exact Nat.le_of_ble_eq_true rfl | (simp; done)) | exact x_store 2 rfl rfl rfl rfl rfl rfl (by first | rfl | exact Nat.le_of_ble_eq_true rfl | (simp; done)) | exact x_store 3 rfl rfl rfl rfl rfl rfl (by first | rfl | exact Nat.le_of_ble_eq_true rfl | (simp; done))) rfl rfl ?_
      rintro _ _ ⟨rfl, rfl⟩
      refine l_nil ?_
      refine c_seq ?_
      refine c_region ?_
      refine l_x (x_loadA rfl rfl rfl (row_own (by repeat (first | exact .head _ | refine .tail _ ?_ | refine List.mem_append_right _ ?_)))) rfl rfl ?_
      rintro _ _ ⟨rfl, rfl⟩
      refine l_l rfl rfl rfl ?_
      refine l_l rfl rfl rfl ?_
      refine l_l rfl rfl rfl ?_
      refine l_l rfl rfl rfl ?_
      refine l_l rfl rfl rfl ?_
      refine l_x (x_val call_11 rfl (fun w hw => spdot_fn c cb cf cs hc _ _ _ _ (filled b) oam (filled_byts hb) ho n x line hcap w (hL33.ns hw (by intro x hx; simp [hx])) (hO.later0 hw))) rfl rfl ?_
      rintro _ _ ⟨rfl, rfl⟩
      refine l_l rfl rfl rfl ?_
      refine l_l rfl rfl rfl ?_
      refine l_l rfl rfl rfl ?_
      refine l_l rfl rfl rfl ?_
      refine l_l rfl rfl rfl ?_
      refine l_nil ?_
      refine c_seq ?_
      refine c_region ?_
      refine l_x (x_loadA rfl rfl rfl (row_own (by repeat (first | exact .head _ | refine .tail _ ?_ | refine List.mem_append_right _ ?_)))) rfl rfl ?_
      rintro _ _ ⟨rfl, rfl⟩
      refine l_l rfl rfl rfl ?_
      refine l_l rfl rfl rfl ?_
      refine l_l rfl rfl rfl ?_
      refine l_l rfl rfl rfl ?_
      refine l_l rfl rfl rfl ?_
      refine l_x (x_val call_12 rfl (fun w hw => rspdot_fn c cb cf cs hc _ _ _ _ (filled b) oam (filled_byts hb) ho n x line w (hL33.ns hw (by intro x hx; simp [hx])) (hO.later0 hw))) rfl rfl ?_
      rintro _ _ ⟨rfl, rfl⟩
      refine l_l rfl rfl rfl ?_
      refine l_l rfl rfl rfl ?_
      refine l_l rfl rfl rfl ?_
      refine l_l rfl rfl rfl ?_
      refine l_l rfl rfl rfl ?_
      refine l_nil ?_
      refine c_seq ?_
      refine c_draw _ [1, 2, 3, 4, 5, 6] (.step true 0 (.step true 1 (.step true 2 (.step true 4 (.step true 5 (.step true 6 (.step false 3 (.step false 7 (.step false 8 (.step true 9 (.step true 10 (.step true 11 (.step true 12 (.step true 13 (.step true 14 (.step true 15 (.step true 16 (.step true 17 (.step true 18 (.step true 19 .done)))))))))))))))))))) rfl (by kernel_rfl) (by kernel_rfl) (fun _ h => h) ?_
      refine d_loadA rfl rfl rfl rfl (srow_own (by repeat (first | exact .head _ | refine .tail _ ?_ | refine List.mem_append_right _ ?_))) rfl rfl ?_
      refine d_light rfl rfl rfl rfl rfl ?_
      refine d_light rfl rfl rfl rfl rfl ?_
      refine d_loadA rfl rfl rfl rfl (srow_own (by repeat (first | exact .head _ | refine .tail _ ?_ | refine List.mem_append_right _ ?_))) rfl rfl ?_
      refine d_light rfl rfl rfl rfl rfl ?_
      refine d_light rfl rfl rfl rfl rfl ?_
      refine d_x rfl (x_call call_14 rfl (fun w hw => scan_fn c cb cf cs hc _ _ oam ho line hcap w (hO.later0 hw))) rfl rfl (by intro _ _ _ hK x hx; obtain ⟨G58, ⟨a58, c58, rfl, hc58, hL58⟩, rfl⟩ := hK; repeat (first | exact hx | refine List.mem_append_right _ ?_ | refine .tail _ ?_)) ?_
      rintro _ _ ⟨G58, ⟨a58, c58, rfl, hc58, hL58⟩, rfl⟩
      refine d_x rfl (x_call call_15 rfl (fun w hw => rscan_fn c cb cf cs hc _ _ oam ho line hcap w (hO.later0 hw))) rfl rfl (by intro h; cases h) ?_
      rintro _ _ ⟨G62, ⟨a62, c62, rfl, hc62, hL62⟩, rfl⟩
      refine d_x rfl (x_val call_13 rfl (fun w hw => same_fn _ _ _ _ (scan oam c line) (scan oam c line) (by rw [scan_len]; omega) w (hL58.ns hw (by intro x hx; simp [hx])) (hL62.ns hw (by intro x hx; simp [hx])))) rfl rfl (by intro h; cases h) ?_
      rintro _ _ ⟨rfl, rfl⟩
      refine d_sure true rfl rfl rfl rfl (by simp) ?_
      refine d_light rfl rfl rfl rfl rfl ?_
      refine d_light rfl rfl rfl rfl rfl ?_
      refine d_sure true rfl rfl rfl rfl (by simp) ?_
      refine d_light rfl rfl rfl rfl rfl ?_
      refine d_light rfl rfl rfl rfl rfl ?_
      refine d_light rfl rfl rfl rfl rfl ?_
      refine d_light rfl rfl rfl rfl rfl ?_
      refine d_sure true rfl (light_eqb rfl rfl rfl) rfl rfl (by simp) ?_
      refine d_light rfl rfl rfl rfl rfl ?_
      refine d_light rfl rfl rfl rfl rfl ?_
      refine d_nil ?_
      refine c_ret ?_
      exact l_end0 (fun _ _ => rets_v rfl) ⟨rfl, rfl⟩

theorem spritesTen_fn (w : World) (a2 : Option Addr) (cap2 : Nat) (oam : List Int) (ho : Byts oam) (hcap : oam.length ≤ cap2) (hO : Ns w .u8 a2 oam)
    (c cb cf cs : Int) (hc : 0 ≤ c ∧ c < 256) (line : Int) (hl : 0 ≤ line ∧ line < 256) :
    Does Try.prog 4 [.slice a2 oam.length cap2, .agg #[.int .u8 c, .int .u8 cb, .int .u8 cf, .int .u8 cs], .int .u8 line] w [] (fun v H => H = [] ∧ v = .bool true) := by
  refine does_of Try.func4 rfl rfl rfl (St.refl w) ?_
  refine c_seq ?_
  refine c_region ?_
  refine l_x (x_box rfl rfl) rfl rfl ?_
  rintro _ _ ⟨b4, rfl, rfl⟩
  refine l_l rfl rfl rfl ?_
  refine l_nil ?_
  refine c_seq ?_
  refine c_seq ?_
  refine c_region ?_
  refine l_x (x_val call_9 rfl (fun w hw => awake_fn w)) rfl rfl ?_
  rintro _ _ ⟨rfl, rfl⟩
  refine l_l rfl rfl rfl ?_
  refine l_l rfl rfl rfl ?_
  refine l_l rfl rfl rfl ?_
  refine l_l (by first | exact light_len rfl rfl | exact light_lens rfl rfl | rfl) rfl rfl ?_
  refine l_l rfl rfl rfl ?_
  refine l_l rfl rfl rfl ?_
  refine l_nil ?_
  refine c_cond rfl (fun h1 => ?_) (fun h1 => ?_)
  · refine c_seq ?_
    refine c_region ?_
    refine l_x (x_val call_9 rfl (fun w hw => awake_fn w)) rfl rfl ?_
    rintro _ _ ⟨rfl, rfl⟩
    refine l_l rfl rfl rfl ?_
    refine l_nil ?_
    refine c_ret ?_
    exact l_end0 (fun _ _ => rets_v rfl) ⟨rfl, rfl⟩
  · refine c_skip ?_
    refine c_seq ?_
    refine c_region ?_
    refine l_x (x_loadA rfl rfl rfl (row_own (by repeat (first | exact .head _ | refine .tail _ ?_ | refine List.mem_append_right _ ?_)))) rfl rfl ?_
    rintro _ _ ⟨rfl, rfl⟩
    refine l_x (x_alloc rfl) rfl rfl ?_
    rintro _ _ ⟨b7, rfl, rfl⟩
    refine l_x (by first | exact x_store 0 rfl rfl rfl rfl rfl rfl (by first | rfl | exact Nat.le_of_ble_eq_true rfl | (simp; done)) | exact x_store 1 rfl rfl rfl rfl rfl rfl (by first | rfl | exact Nat.le_of_ble_eq_true rfl | (simp; done)) | exact x_store 2 rfl rfl rfl rfl rfl rfl (by first | rfl | exact Nat.le_of_ble_eq_true rfl | (simp; done)) | exact x_store 3 rfl rfl rfl rfl rfl rfl (by first | rfl | exact Nat.le_of_ble_eq_true rfl | (simp; done))) rfl rfl ?_
    rintro _ _ ⟨rfl, rfl⟩
    refine l_nil ?_
    refine c_seq ?_
    refine c_region ?_
    refine l_x (x_loadA rfl rfl rfl (row_own (by repeat (first | exact .head _ | refine .tail _ ?_ | refine List.mem_append_right _ ?_)))) rfl rfl ?_
    rintro _ _ ⟨rfl, rfl⟩
    refine l_l rfl rfl rfl ?_
    refine l_l rfl rfl rfl ?_
    refine l_as (v := (.int .i64 line)) rfl rfl rfl (congrArg _ (wrap_i64 (by omega) (by omega))) ?_
    refine l_x (x_call call_14 rfl (fun w hw => scan_fn c cb cf cs hc _ _ oam ho line hcap w (hO.later0 hw))) rfl rfl ?_
    rintro _ _ ⟨G28, ⟨a28, c28, rfl, hc28, hL28⟩, rfl⟩
    refine l_l rfl rfl rfl ?_
    refine l_nil ?_
    refine c_seq ?_
    refine c_region ?_
    refine l_l rfl rfl rfl ?_
    refine l_nil ?_
    refine c_keep [9, 29, 30, 31, 32] [(9, .int .i64 (hgt c))] ?_ (fun y6 => ?_)
    · refine c_seq ?_
      refine c_region ?_
      refine l_l (light_fa rfl rfl) rfl rfl ?_
      refine l_x (x_load rfl rfl (at_own (by repeat (first | exact .head _ | refine .tail _ ?_ | refine List.mem_append_right _ ?_)) (by rfl))) rfl rfl ?_
      rintro _ _ ⟨rfl, rfl⟩
      refine l_l rfl rfl rfl ?_
      refine l_l rfl rfl rfl ?_
      refine l_nil ?_
      refine c_cond rfl (fun h2 => ?_) (fun h2 => ?_)
      · refine c_region ?_
        refine l_l rfl rfl rfl ?_
        refine l_nil ?_
        exact ⟨.cons (congrArg _ (hgt_16 hc h2)) .nil, (by repeat (first | exact Agree.refl _ _ | exact Agree.mix rfl | refine Agree.put rfl ?_ | refine Agree.keep rfl ?_)), fun _ h => h⟩
      · refine c_skip ?_
        exact ⟨.cons (congrArg _ (hgt_8 hc h2)) .nil, (by repeat (first | exact Agree.refl _ _ | exact Agree.mix rfl | refine Agree.put rfl ?_ | refine Agree.keep rfl ?_)), fun _ h => h⟩
    · refine c_seq ?_
      refine c_region ?_
      refine l_l rfl rfl rfl ?_
      refine l_nil ?_
      refine c_seq ?_
      refine c_seq ?_
      refine c_region ?_
      refine l_l rfl rfl rfl ?_
      refine l_nil ?_
      refine c_block ?_
      refine c_loopk (σ := Nat) [6, 10, 11, 12, 13, 14, 33, 34, 35, 36, 37, 38, 39, 40, 41, 42, 43, 44, 45, 46, 47, 48, 49, 50, 51, 52, 53, 54, 55, 56, 57, 58, 59, 60, 61, 62, 63, 64, 65, 66, 67, 68, 69, 70, 71, 72, 73, 74, 75, 76, 77, 78, 79, 80, 81, 82, 83, 84, 85] (fun k => [(33, .int .i64 k), (10, .int .i64 (atK oam c line k))]) (fun k => k ≤ 40) (fun k => 40 - k) 0 ?_ ?_ ?_
      · show 0 ≤ 40; omega
      · exact .cons rfl (.cons (by simp only [atK_zero]; rfl) .nil)
      · intro k y hk
        refine c_seq ?_
        refine c_region ?_
        refine l_l rfl rfl rfl ?_
        refine l_nil ?_
        refine c_seq ?_
        refine c_cond rfl (fun h3 => ?_) (fun h3 => ?_)
        · refine c_skip ?_
          refine c_seq ?_
          refine c_block ?_
          refine c_seq ?_
          have hk40 : k < 40 := by simp at *; omega
          refine c_region ?_
          refine l_l rfl rfl rfl ?_
          refine l_l rfl rfl rfl ?_
          refine l_nil ?_
          refine c_seq ?_
          refine c_region ?_
          refine l_l rfl rfl rfl ?_
          refine l_nil ?_
          refine c_keep [12, 36, 37, 38, 39, 40, 41, 42, 43, 44, 45, 46, 47] [(12, .int .i64 (oB oam (k : Int) 0 - 16))] ?_ (fun y13 => ?_)
          · refine c_seq ?_
            refine c_region ?_
            refine l_l rfl rfl rfl ?_
            refine l_as (v := (.int .i64 ((4 * k : Nat) : Int))) rfl rfl rfl (congrArg _ (by rw [wrap_i64 (by omega) (by omega)]; omega)) ?_
            refine l_l rfl rfl rfl ?_
            refine l_l (by first | exact light_len rfl rfl | exact light_lens rfl rfl | rfl) rfl rfl ?_
            refine l_l rfl rfl rfl ?_
            refine l_nil ?_
            refine c_cond rfl (fun h4 => ?_) (fun h4 => ?_)
            · obtain ⟨b, off, rfl, hr⟩ := hO.row (i := 4 * k) (by simp at *; omega)
              refine c_region ?_
              refine l_l rfl rfl rfl ?_
              refine l_l rfl rfl rfl ?_
              refine l_as (v := (.int .i64 ((4 * k : Nat) : Int))) rfl rfl rfl (congrArg _ (by rw [wrap_i64 (by omega) (by omega)]; omega)) ?_
              refine l_l (idx_slice1 (4 * k) rfl rfl rfl rfl (by simp at *; omega)) rfl rfl ?_
              refine l_x (x_load rfl rfl (at_old (hr.int (by simp at *; omega)) (by simp))) rfl rfl ?_
              rintro _ _ ⟨rfl, rfl⟩
              refine l_l rfl rfl rfl ?_
              refine l_l rfl rfl rfl ?_
              refine l_l rfl rfl rfl ?_
              refine l_nil ?_
              exact ⟨.cons (congrArg _ (top_in ho k)) .nil, (by repeat (first | exact Agree.refl _ _ | exact Agree.mix rfl | refine Agree.put rfl ?_ | refine Agree.keep rfl ?_)), fun _ h => h⟩
            · refine c_skip ?_
              exact ⟨.cons (congrArg _ (top_out (by simp at *; omega))) .nil, (by repeat (first | exact Agree.refl _ _ | exact Agree.mix rfl | refine Agree.put rfl ?_ | refine Agree.keep rfl ?_)), fun _ h => h⟩
          · refine c_keep [13, 48, 49, 50, 51, 52, 53, 54, 55, 56, 57, 58, 59] [(13, .bool (hasB oam c line k))] ?_ (fun y15 => ?_)
            · refine c_region ?_
              refine l_l rfl rfl rfl ?_
              refine l_l rfl rfl rfl ?_
              refine l_l rfl rfl rfl ?_
              refine l_l rfl rfl rfl ?_
              refine l_b rfl rfl rfl (fun h5 => ?_) (fun h5 => ?_)
              · refine l_l rfl rfl rfl ?_
                refine l_l rfl rfl rfl ?_
                refine l_l rfl rfl rfl ?_
                refine l_l rfl rfl rfl ?_
                refine l_l rfl rfl rfl ?_
                refine l_l rfl rfl rfl ?_
                refine l_l rfl rfl rfl ?_
                refine l_l rfl rfl rfl ?_
                refine l_nil ?_
                exact ⟨.cons (congrArg _ (has_in ho hl h5)) .nil, (by repeat (first | exact Agree.refl _ _ | exact Agree.mix rfl | refine Agree.put rfl ?_ | refine Agree.keep rfl ?_)), fun _ h => h⟩
              · refine l_p rfl rfl ?_
                refine l_p rfl rfl ?_
                refine l_p rfl rfl ?_
                refine l_p rfl rfl ?_
                refine l_p rfl rfl ?_
                refine l_p rfl rfl ?_
                refine l_l rfl rfl rfl ?_
                refine l_l rfl rfl rfl ?_
                refine l_nil ?_
                exact ⟨.cons (congrArg _ (has_out hl h5)) .nil, (by repeat (first | exact Agree.refl _ _ | exact Agree.mix rfl | refine Agree.put rfl ?_ | refine Agree.keep rfl ?_)), fun _ h => h⟩
            · refine c_keep [14, 60, 61, 62, 63, 64, 65, 66, 67, 68, 69, 70, 71] [(14, .bool (told oam c line k))] ?_ (fun y16 => ?_)
              · refine c_region ?_
                refine l_l rfl rfl rfl ?_
                refine l_l rfl rfl rfl ?_
                refine l_l (by first | exact light_len rfl rfl | exact light_lens rfl rfl | rfl) rfl rfl ?_
                refine l_l rfl rfl rfl ?_
                refine l_b rfl rfl rfl (fun h6 => ?_) (fun h6 => ?_)
                · obtain ⟨b, off, rfl, hr⟩ := hL28.row (i := atK oam c line k) (by simp at *; omega)
                  refine l_l rfl rfl rfl ?_
                  refine l_l rfl rfl rfl ?_
                  refine l_l (idx_slice1 (atK oam c line k) rfl rfl rfl rfl (by simp at *; omega)) rfl rfl ?_
                  refine l_x (x_load rfl rfl (at_gives hr (by intro x hx; simp [hx]) (by simp at *; omega))) rfl rfl ?_
                  rintro _ _ ⟨rfl, rfl⟩
                  refine l_l rfl rfl rfl ?_
                  refine l_l rfl rfl rfl ?_
                  refine l_l rfl rfl rfl ?_
                  refine l_l rfl rfl rfl ?_
                  refine l_nil ?_
                  exact ⟨.cons (congrArg _ (told_in hk40 (by simp at *; omega))) .nil, (by repeat (first | exact Agree.refl _ _ | exact Agree.mix rfl | refine Agree.put rfl ?_ | refine Agree.keep rfl ?_)), fun _ h => h⟩
                · refine l_p rfl rfl ?_
                  refine l_p rfl rfl ?_
                  refine l_p rfl rfl ?_
                  refine l_p rfl rfl ?_
                  refine l_p rfl rfl ?_
                  refine l_p rfl rfl ?_
                  refine l_l rfl rfl rfl ?_
                  refine l_l rfl rfl rfl ?_
                  refine l_nil ?_
                  exact ⟨.cons (congrArg _ (told_out hk40 (by simp at *; omega))) .nil, (by repeat (first | exact Agree.refl _ _ | exact Agree.mix rfl | refine Agree.put rfl ?_ | refine Agree.keep rfl ?_)), fun _ h => h⟩
              · refine c_keep [10, 72, 73, 74] [(10, .int .i64 (atK oam c line (k + 1)))] ?_ (fun y17 => ?_)
                · refine c_seq ?_
                  refine c_region ?_
                  refine l_l rfl rfl rfl ?_
                  refine l_nil ?_
                  refine c_cond rfl (fun h7 => ?_) (fun h7 => ?_)
                  · refine c_region ?_
                    refine l_l rfl rfl rfl ?_
                    refine l_l rfl rfl rfl ?_
                    refine l_l rfl rfl rfl ?_
                    refine l_nil ?_
                    exact ⟨.cons (congrArg _ (atK_yes h7)) .nil, (by repeat (first | exact Agree.refl _ _ | exact Agree.mix rfl | refine Agree.put rfl ?_ | refine Agree.keep rfl ?_)), fun _ h => h⟩
                  · refine c_skip ?_
                    exact ⟨.cons (congrArg _ (congrArg Nat.cast (atK_no h7))) .nil, (by repeat (first | exact Agree.refl _ _ | exact Agree.mix rfl | refine Agree.put rfl ?_ | refine Agree.keep rfl ?_)), fun _ h => h⟩
                · refine c_seq ?_
                  refine c_region ?_
                  refine l_l rfl rfl rfl ?_
                  refine l_l rfl rfl rfl ?_
                  refine l_b rfl rfl rfl (fun h8 => ?_) (fun h8 => ?_)
                  · refine l_l rfl rfl rfl ?_
                    refine l_b rfl rfl rfl (fun h9 => ?_) (fun h9 => ?_)
                    · refine l_p rfl rfl ?_
                      refine l_p rfl rfl ?_
                      refine l_l rfl rfl rfl ?_
                      refine l_l rfl rfl rfl ?_
                      refine l_sure false (light_neb rfl rfl rfl) rfl rfl (by first | (simp_all [told]; done) | (have h0 := atK_full (by assumption) (by assumption); simp_all; omega)) ?_
                      refine l_nil ?_
                      refine c_false rfl ?_
                      refine c_skip ?_
                      refine c_region ?_
                      refine l_l rfl rfl rfl ?_
                      refine l_l rfl rfl rfl ?_
                      refine l_nil ?_
                      exact ⟨k + 1, by simp at *; omega, by simp at *; omega, .cons (congrArg _ (succ_law (by omega))) (.cons rfl .nil), (by repeat (first | exact Agree.refl _ _ | exact Agree.mix rfl | refine Agree.put rfl ?_ | refine Agree.keep rfl ?_)), fun _ h => h⟩
                    · refine l_l rfl rfl rfl ?_
                      refine l_l rfl rfl rfl ?_
                      refine l_l rfl rfl rfl ?_
                      refine l_l rfl rfl rfl ?_
                      refine l_sure false (light_neb rfl rfl rfl) rfl rfl (by first | (simp_all [told]; done) | (have h0 := atK_full (by assumption) (by assumption); simp_all; omega)) ?_
                      refine l_nil ?_
                      refine c_false rfl ?_
                      refine c_skip ?_
                      refine c_region ?_
                      refine l_l rfl rfl rfl ?_
                      refine l_l rfl rfl rfl ?_
                      refine l_nil ?_
                      exact ⟨k + 1, by simp at *; omega, by simp at *; omega, .cons (congrArg _ (succ_law (by omega))) (.cons rfl .nil), (by repeat (first | exact Agree.refl _ _ | exact Agree.mix rfl | refine Agree.put rfl ?_ | refine Agree.keep rfl ?_)), fun _ h => h⟩
                  · refine l_p rfl rfl ?_
                    refine l_p rfl rfl ?_
                    refine l_p rfl rfl ?_
                    refine l_p rfl rfl ?_
                    refine l_p rfl rfl ?_
                    refine l_l rfl rfl rfl ?_
                    refine l_sure false (light_neb rfl rfl rfl) rfl rfl (by first | (simp_all [told]; done) | (have h0 := atK_full (by assumption) (by assumption); simp_all; omega)) ?_
                    refine l_nil ?_
                    refine c_false rfl ?_
                    refine c_skip ?_
                    refine c_region ?_
                    refine l_l rfl rfl rfl ?_
                    refine l_l rfl rfl rfl ?_
                    refine l_nil ?_
                    exact ⟨k + 1, by simp at *; omega, by simp at *; omega, .cons (congrArg _ (succ_law (by omega))) (.cons rfl .nil), (by repeat (first | exact Agree.refl _ _ | exact Agree.mix rfl | refine Agree.put rfl ?_ | refine Agree.keep rfl ?_)), fun _ h => h⟩
        · refine c_exit rfl ?_
          refine c_seq ?_
          obtain rfl : k = 40 := by simp at *; omega
          refine c_region ?_
          refine l_l rfl rfl rfl ?_
          refine l_l rfl rfl rfl ?_
          refine l_l (by first | exact light_len rfl rfl | exact light_lens rfl rfl | rfl) rfl rfl ?_
          refine l_l rfl rfl rfl ?_
          refine l_sure true rfl rfl rfl (by have := atK_all oam c line; simp at *; omega) ?_
          refine l_l rfl rfl rfl ?_
          refine l_sure true rfl rfl rfl (by have := atK_ten oam c line 40; simp at *; omega) ?_
          refine l_l rfl rfl rfl ?_
          refine l_l rfl rfl rfl ?_
          refine l_nil ?_
          refine c_ret ?_
          exact l_end0 (fun _ _ => rets_v rfl) ⟨rfl, rfl⟩

theorem spritesTurns_fn (w : World) (a : Option Addr) (cap : Nat) (b : List Int) (hb : Byts b) (hB : Ns w .u8 a b) 
    (c cb cf cs : Int) (hc : 0 ≤ c ∧ c < 256) (y x tile how row col : Int) (hy : 0 ≤ y ∧ y < 256) (hx : 0 ≤ x ∧ x < 256) (ht : 0 ≤ tile ∧ tile < 256) (hhw : 0 ≤ how ∧ how < 256) (hr : 0 ≤ row ∧ row < 256) (hcl : 0 ≤ col ∧ col < 256) :
    Does Try.prog 5 [.slice a b.length cap, .agg #[.int .u8 c, .int .u8 cb, .int .u8 cf, .int .u8 cs], .int .u8 y, .int .u8 x, .int .u8 tile, .int .u8 how, .int .u8 row, .int .u8 col] w [] (fun v H => H = [] ∧ v = .bool true) := by
  refine does_of Try.func5 rfl rfl rfl (St.refl w) ?_
  refine c_seq ?_
  refine c_region ?_
  refine l_x (x_box rfl rfl) rfl rfl ?_
  rintro _ _ ⟨b9, rfl, rfl⟩
  refine l_l rfl rfl rfl ?_
  refine l_nil ?_
  refine c_seq ?_
  refine c_seq ?_
  refine c_region ?_
  refine l_x (x_val call_9 rfl (fun w hw => awake_fn w)) rfl rfl ?_
  rintro _ _ ⟨rfl, rfl⟩
  refine l_l rfl rfl rfl ?_
  refine l_l rfl rfl rfl ?_
  refine l_l rfl rfl rfl ?_
  refine l_l (by first | exact light_len rfl rfl | exact light_lens rfl rfl | rfl) rfl rfl ?_
  refine l_l rfl rfl rfl ?_
  refine l_l rfl rfl rfl ?_
  refine l_nil ?_
  refine c_cond rfl (fun h1 => ?_) (fun h1 => ?_)
  · refine c_seq ?_
    refine c_region ?_
    refine l_x (x_val call_9 rfl (fun w hw => awake_fn w)) rfl rfl ?_
    rintro _ _ ⟨rfl, rfl⟩
    refine l_l rfl rfl rfl ?_
    refine l_nil ?_
    refine c_ret ?_
    exact l_end0 (fun _ _ => rets_v rfl) ⟨rfl, rfl⟩
  · refine c_skip ?_
    refine c_seq ?_
    refine c_region ?_
    refine l_l rfl rfl rfl ?_
    refine l_x (x_call call_10 rfl (fun w hw => filled_fn _ _ b (by simp at *; omega) w (hB.later0 hw))) rfl rfl ?_
    rintro _ _ ⟨G39, ⟨a39, c39, rfl, hc39, hL39⟩, rfl⟩
    refine l_l rfl rfl rfl ?_
    refine l_nil ?_
    refine c_seq ?_
    refine c_region ?_
    refine l_x (x_loadA rfl rfl rfl (row_own (by repeat (first | exact .head _ | refine .tail _ ?_ | refine List.mem_append_right _ ?_)))) rfl rfl ?_
    rintro _ _ ⟨rfl, rfl⟩
    refine l_x (x_alloc rfl) rfl rfl ?_
    rintro _ _ ⟨b18, rfl, rfl⟩
    refine l_x (by first | exact x_store 0 rfl rfl rfl rfl rfl rfl (by first | rfl | exact Nat.le_of_ble_eq_true rfl | (simp; done)) | exact x_store 1 rfl rfl rfl rfl rfl rfl (by first | rfl | exact Nat.le_of_ble_eq_true rfl | (simp; done)) | exact x_store 2 rfl rfl rfl rfl rfl rfl (by first | rfl | exact Nat.le_of_ble_eq_true rfl | (simp; done)) | exact x_store 3 rfl rfl rfl rfl rfl rfl (by first | rfl | exact Nat.le_of_ble_eq_true rfl | (simp; done))) rfl rfl ?_
    rintro _ _ ⟨rfl, rfl⟩
    refine l_nil ?_
    refine c_seq ?_
    refine c_region ?_
    refine l_l rfl rfl rfl ?_
    refine l_nil ?_
    refine c_keep [19, 41, 42, 43, 44] [(19, .int .i64 (hgt c))] ?_ (fun y6 => ?_)
    · refine c_seq ?_
      refine c_region ?_
      refine l_l (light_fa rfl rfl) rfl rfl ?_
      refine l_x (x_load rfl rfl (at_own (by repeat (first | exact .head _ | refine .tail _ ?_ | refine List.mem_append_right _ ?_)) (by rfl))) rfl rfl ?_
      rintro _ _ ⟨rfl, rfl⟩
      refine l_l rfl rfl rfl ?_
      refine l_l rfl rfl rfl ?_
      refine l_nil ?_
      refine c_cond rfl (fun h2 => ?_) (fun h2 => ?_)
      · refine c_region ?_
        refine l_l rfl rfl rfl ?_
        refine l_nil ?_
        exact ⟨.cons (congrArg _ (hgt_16 hc h2)) .nil, (by repeat (first | exact Agree.refl _ _ | exact Agree.mix rfl | refine Agree.put rfl ?_ | refine Agree.keep rfl ?_)), fun _ h => h⟩
      · refine c_skip ?_
        exact ⟨.cons (congrArg _ (hgt_8 hc h2)) .nil, (by repeat (first | exact Agree.refl _ _ | exact Agree.mix rfl | refine Agree.put rfl ?_ | refine Agree.keep rfl ?_)), fun _ h => h⟩
    · refine c_seq ?_
      have hg := hgt_two c
      obtain ⟨hi, hi2⟩ := mod_hgt c hr.1
      have hj : 0 ≤ col % 8 ∧ col % 8 < 8 := by omega
      refine c_region ?_
      refine l_l rfl rfl rfl ?_
      refine l_as (v := (.int .i64 (row))) rfl rfl rfl (congrArg _ (wrap_i64 (by omega) (by omega))) ?_
      refine l_l rfl rfl rfl ?_
      refine l_as (v := (.int .i64 (row % hgt c))) (rem_pos rfl rfl (by omega)) rfl rfl (congrArg _ hi2) ?_
      refine l_l rfl rfl rfl ?_
      refine l_as (v := (.int .i64 (col))) rfl rfl rfl (congrArg _ (wrap_i64 (by omega) (by omega))) ?_
      refine l_as (v := (.int .i64 (col % 8))) (rem_pos rfl rfl (by decide)) rfl rfl (congrArg _ (Int.tmod_eq_emod_of_nonneg hcl.1)) ?_
      refine l_l rfl rfl rfl ?_
      refine l_l rfl rfl rfl ?_
      refine l_nil ?_
      refine c_seq ?_
      refine c_region ?_
      refine l_l rfl rfl rfl ?_
      refine l_as (v := (.int .i64 (y))) rfl rfl rfl (congrArg _ (wrap_i64 (by omega) (by omega))) ?_
      refine l_as (v := (.int .i64 (y - 16))) rfl rfl rfl (congrArg _ (wrap_i64 (by omega) (by omega))) ?_
      refine l_l rfl rfl rfl ?_
      refine l_as (v := (.int .i64 (x))) rfl rfl rfl (congrArg _ (wrap_i64 (by omega) (by omega))) ?_
      refine l_as (v := (.int .i64 (x - 8))) rfl rfl rfl (congrArg _ (wrap_i64 (by omega) (by omega))) ?_
      refine l_l rfl rfl rfl ?_
      refine l_l rfl rfl rfl ?_
      refine l_nil ?_
      refine c_seq ?_
      refine c_region ?_
      refine l_x (x_loadA rfl rfl rfl (row_own (by repeat (first | exact .head _ | refine .tail _ ?_ | refine List.mem_append_right _ ?_)))) rfl rfl ?_
      rintro _ _ ⟨rfl, rfl⟩
      refine l_l rfl rfl rfl ?_
      refine l_l rfl rfl rfl ?_
      refine l_l rfl rfl rfl ?_
      refine l_l rfl rfl rfl ?_
      refine l_l rfl rfl rfl ?_
      refine l_x (x_slc rfl rfl rfl rfl rfl rfl) rfl rfl ?_
      rintro _ _ ⟨b65, rfl, rfl⟩
      refine l_l rfl rfl rfl ?_
      refine l_l rfl rfl rfl ?_
      refine l_as (v := (.int .i64 (x - 8 + col % 8))) rfl rfl rfl (congrArg _ (wrap_i64 (by omega) (by omega))) ?_
      refine l_l rfl rfl rfl ?_
      refine l_l rfl rfl rfl ?_
      refine l_as (v := (.int .i64 (y - 16 + row % hgt c))) rfl rfl rfl (congrArg _ (wrap_i64 (by omega) (by omega))) ?_
      refine l_x (x_val call_11 rfl (fun w hw => spdot_fn c cb cf cs hc _ _ _ _ (filled b) [y, x, tile, how] (filled_byts hb) (byts4 hy hx ht hhw) 0 _ _ (Nat.le_refl 4) w (hL39.ns hw (by intro x hx; simp [hx])) (Ns.of (row_own (by repeat (first | exact .head _ | refine .tail _ ?_ | refine List.mem_append_right _ ?_)) w hw)))) rfl rfl ?_
      rintro _ _ ⟨rfl, rfl⟩
      refine l_l rfl rfl rfl ?_
      refine l_l rfl rfl rfl ?_
      refine l_l rfl rfl rfl ?_
      refine l_l rfl rfl rfl ?_
      refine l_l rfl rfl rfl ?_
      refine l_nil ?_
      refine c_seq ?_
      refine c_region ?_
      refine l_x (x_loadA rfl rfl rfl (row_own (by repeat (first | exact .head _ | refine .tail _ ?_ | refine List.mem_append_right _ ?_)))) rfl rfl ?_
      rintro _ _ ⟨rfl, rfl⟩
      refine l_l rfl rfl rfl ?_
      refine l_l rfl rfl rfl ?_
      refine l_l rfl rfl rfl ?_
      refine l_l rfl rfl rfl ?_
      refine l_l rfl rfl rfl ?_
      refine l_l rfl rfl rfl ?_
      refine l_x (x_slc rfl rfl rfl rfl rfl rfl) rfl rfl ?_
      rintro _ _ ⟨b83, rfl, rfl⟩
      refine l_l rfl rfl rfl ?_
      refine l_l rfl rfl rfl ?_
      refine l_as (v := (.int .i64 (x - 8 + col % 8))) rfl rfl rfl (congrArg _ (wrap_i64 (by omega) (by omega))) ?_
      refine l_l rfl rfl rfl ?_
      refine l_l rfl rfl rfl ?_
      refine l_as (v := (.int .i64 (y - 16 + hgt c))) rfl rfl rfl (congrArg _ (wrap_i64 (by omega) (by omega))) ?_
      refine l_as (v := (.int .i64 (y - 16 + hgt c - 1))) rfl rfl rfl (congrArg _ (wrap_i64 (by omega) (by omega))) ?_
      refine l_l rfl rfl rfl ?_
      refine l_as (v := (.int .i64 (y - 16 + hgt c - 1 - row % hgt c))) rfl rfl rfl (congrArg _ (wrap_i64 (by omega) (by omega))) ?_
      refine l_x (x_val call_11 rfl (fun w hw => spdot_fn c cb cf cs hc _ _ _ _ (filled b) [y, x, tile, (bxor .u8 how 64)] (filled_byts hb) (byts4 hy hx ht (xor64 hhw).1) 0 _ _ (Nat.le_refl 4) w (hL39.ns hw (by intro x hx; simp [hx])) (Ns.of (row_own (by repeat (first | exact .head _ | refine .tail _ ?_ | refine List.mem_append_right _ ?_)) w hw)))) rfl rfl ?_
      rintro _ _ ⟨rfl, rfl⟩
      rw [turn64 hhw hi hj]
      refine l_l rfl rfl rfl ?_
      refine l_l rfl rfl rfl ?_
      refine l_l rfl rfl rfl ?_
      refine l_l rfl rfl rfl ?_
      refine l_l rfl rfl rfl ?_
      refine l_nil ?_
      refine c_seq ?_
      refine c_region ?_
      refine l_x (x_loadA rfl rfl rfl (row_own (by repeat (first | exact .head _ | refine .tail _ ?_ | refine List.mem_append_right _ ?_)))) rfl rfl ?_
      rintro _ _ ⟨rfl, rfl⟩
      refine l_l rfl rfl rfl ?_
      refine l_l rfl rfl rfl ?_
      refine l_l rfl rfl rfl ?_
      refine l_l rfl rfl rfl ?_
      refine l_l rfl rfl rfl ?_
      refine l_l rfl rfl rfl ?_
      refine l_x (x_slc rfl rfl rfl rfl rfl rfl) rfl rfl ?_
      rintro _ _ ⟨b104, rfl, rfl⟩
      refine l_l rfl rfl rfl ?_
      refine l_as (v := (.int .i64 (x - 8 + 7))) rfl rfl rfl (congrArg _ (wrap_i64 (by omega) (by omega))) ?_
      refine l_l rfl rfl rfl ?_
      refine l_as (v := (.int .i64 (x - 8 + 7 - col % 8))) rfl rfl rfl (congrArg _ (wrap_i64 (by omega) (by omega))) ?_
      refine l_l rfl rfl rfl ?_
      refine l_l rfl rfl rfl ?_
      refine l_as (v := (.int .i64 (y - 16 + row % hgt c))) rfl rfl rfl (congrArg _ (wrap_i64 (by omega) (by omega))) ?_
      refine l_x (x_val call_11 rfl (fun w hw => spdot_fn c cb cf cs hc _ _ _ _ (filled b) [y, x, tile, (bxor .u8 how 32)] (filled_byts hb) (byts4 hy hx ht (xor32 hhw).1) 0 _ _ (Nat.le_refl 4) w (hL39.ns hw (by intro x hx; simp [hx])) (Ns.of (row_own (by repeat (first | exact .head _ | refine .tail _ ?_ | refine List.mem_append_right _ ?_)) w hw)))) rfl rfl ?_
      rintro _ _ ⟨rfl, rfl⟩
      rw [turn32 hhw hi hj]
      refine l_l rfl rfl rfl ?_
      refine l_l rfl rfl rfl ?_
      refine l_l rfl rfl rfl ?_
      refine l_l rfl rfl rfl ?_
      refine l_l rfl rfl rfl ?_
      refine l_nil ?_
      refine c_seq ?_
      refine c_region ?_
      refine l_l rfl rfl rfl ?_
      refine l_l rfl rfl rfl ?_
      refine l_sure true rfl rfl rfl (by simp) ?_
      refine l_l rfl rfl rfl ?_
      refine l_l rfl rfl rfl ?_
      refine l_l rfl rfl rfl ?_
      refine l_sure true (light_eqb rfl rfl rfl) rfl rfl (by simp) ?_
      refine l_l rfl rfl rfl ?_
      refine l_l rfl rfl rfl ?_
      refine l_l rfl rfl rfl ?_
      refine l_l rfl rfl rfl ?_
      refine l_sure true rfl rfl rfl (by simp) ?_
      refine l_l rfl rfl rfl ?_
      refine l_l rfl rfl rfl ?_
      refine l_l rfl rfl rfl ?_
      refine l_l rfl rfl rfl ?_
      refine l_sure true (light_eqb rfl rfl rfl) rfl rfl (by simp) ?_
      refine l_l rfl rfl rfl ?_
      refine l_l rfl rfl rfl ?_
      refine l_l rfl rfl rfl ?_
      refine l_sure true rfl rfl rfl (by have := spDot_four (filled b) [y, x, tile, how] c 0 (x - 8 + col % 8) (y - 16 + row % hgt c); simp; omega) ?_
      refine l_l rfl rfl rfl ?_
      refine l_l rfl rfl rfl ?_
      refine l_l rfl rfl rfl ?_
      refine l_l rfl rfl rfl ?_
      refine l_l rfl rfl rfl ?_
      refine l_sure true (light_eqb rfl rfl rfl) rfl rfl (by simp) ?_
      refine l_l rfl rfl rfl ?_
      refine l_l rfl rfl rfl ?_
      refine l_nil ?_
      refine c_ret ?_
      exact l_end0 (fun _ _ => rets_v rfl) ⟨rfl, rfl⟩

end Go.Proofs.Ytmdcapafaiemgaa
