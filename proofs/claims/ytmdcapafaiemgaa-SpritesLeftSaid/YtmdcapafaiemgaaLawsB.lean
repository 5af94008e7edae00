/- The contracts of the laws of lines: each returns true. -/
import Derived.Test.YtmdcapafaiemgaaLineR
import Derived.Test.YtmdcapafaiemgaaLaws
import Derived.Test.YtmdcapafaiemgaaVvL
import Derived.Test.YtmdcapafaiemgaaCalls
namespace Go.Proofs.Ytmdcapafaiemgaa
open Go Go.VV Go.Proofs
set_option maxRecDepth 100000 in
theorem spritesLines_fn (w : World) (a : Option Addr) (cap : Nat) (b : List Int) (hb : Byts b) (hB : Ns w .u8 a b) (a2 : Option Addr) (cap2 : Nat) (oam : List Int) (ho : Byts oam) (hcap : oam.length ≤ cap2) (hO : Ns w .u8 a2 oam) (c cb cf cs : Int) (hc : 0 ≤ c ∧ c < 256) (hcb : 0 ≤ cb ∧ cb < 256) (hcf : 0 ≤ cf ∧ cf < 256) (hcs : 0 ≤ cs ∧ cs < 256) (line : Int) (hli : 0 ≤ line ∧ line < 256) (a4 : Option Addr) (cap4 : Nat) (ub : List Int) (hub : Byts ub) (hU : Ns w .u8 a4 ub) :
    Does Try.prog 6 [.slice a b.length cap, .slice a2 oam.length cap2, .agg #[.int .u8 c, .int .u8 cb, .int .u8 cf, .int .u8 cs], .int .u8 line, .slice a4 ub.length cap4] w [] (fun v H => H = [] ∧ v = .bool true) := by
  refine does_of Try.func6 rfl rfl rfl (St.refl w) ?_
  refine c_seq ?_
  refine c_region ?_
  refine l_x (x_box rfl rfl) rfl rfl ?_
  rintro _ _ ⟨b7, rfl, rfl⟩
  refine l_l rfl rfl rfl ?_
  refine l_nil ?_
  refine c_seq ?_
  refine c_seq ?_
  refine c_region ?_
  refine l_x (x_val call_9 rfl (fun w hw => awake_fn w)) rfl rfl ?_
  rintro _ _ ⟨rfl, rfl⟩
  refine l_l rfl rfl rfl ?_
  refine l_l rfl rfl rfl ?_
  refine l_l rfl rfl rfl ?_
  refine l_l (by first | exact light_len rfl rfl | exact light_lens rfl rfl | rfl) rfl rfl ?_
  refine l_l rfl rfl rfl ?_
  refine l_l rfl rfl rfl ?_
  refine l_b rfl rfl rfl (fun h1 => ?_) (fun h1 => ?_)
  · refine l_p rfl rfl ?_
    refine l_p rfl rfl ?_
    refine l_p rfl rfl ?_
    refine l_l rfl rfl rfl ?_
    refine l_l rfl rfl rfl ?_
    refine l_p rfl rfl ?_
    refine l_p rfl rfl ?_
    refine l_p rfl rfl ?_
    refine l_l rfl rfl rfl ?_
    refine l_nil ?_
    refine c_true rfl ?_
    refine c_seq ?_
    refine c_region ?_
    refine l_x (x_val call_9 rfl (fun w hw => awake_fn w)) rfl rfl ?_
    rintro _ _ ⟨rfl, rfl⟩
    refine l_l rfl rfl rfl ?_
    refine l_nil ?_
    refine c_ret ?_
    exact l_end0 (fun _ _ => rets_v rfl) ⟨rfl, rfl⟩
  · refine l_l rfl rfl rfl ?_
    refine l_l (by first | exact light_len rfl rfl | exact light_lens rfl rfl | rfl) rfl rfl ?_
    refine l_l rfl rfl rfl ?_
    refine l_l rfl rfl rfl ?_
    refine l_b rfl rfl rfl (fun h2 => ?_) (fun h2 => ?_)
    · refine l_p rfl rfl ?_
      refine l_p rfl rfl ?_
      refine l_p rfl rfl ?_
      refine l_l rfl rfl rfl ?_
      refine l_nil ?_
      refine c_true rfl ?_
      refine c_seq ?_
      refine c_region ?_
      refine l_x (x_val call_9 rfl (fun w hw => awake_fn w)) rfl rfl ?_
      rintro _ _ ⟨rfl, rfl⟩
      refine l_l rfl rfl rfl ?_
      refine l_nil ?_
      refine c_ret ?_
      exact l_end0 (fun _ _ => rets_v rfl) ⟨rfl, rfl⟩
    · refine l_l rfl rfl rfl ?_
      refine l_l (by first | exact light_len rfl rfl | exact light_lens rfl rfl | rfl) rfl rfl ?_
      refine l_l rfl rfl rfl ?_
      refine l_l rfl rfl rfl ?_
      refine l_nil ?_
      refine c_cond rfl (fun h3 => ?_) (fun h3 => ?_)
      · refine c_seq ?_
        refine c_region ?_
        refine l_x (x_val call_9 rfl (fun w hw => awake_fn w)) rfl rfl ?_
        rintro _ _ ⟨rfl, rfl⟩
        refine l_l rfl rfl rfl ?_
        refine l_nil ?_
        refine c_ret ?_
        exact l_end0 (fun _ _ => rets_v rfl) ⟨rfl, rfl⟩
      · refine c_skip ?_
        refine c_seq ?_
        refine c_region ?_
        refine l_l rfl rfl rfl ?_
        refine l_x (x_call call_10 rfl (fun w hw => filled_fn _ _ b (by simp at *; omega) w (hB.later0 hw))) rfl rfl ?_
        rintro _ _ ⟨G32, ⟨a32, c32, rfl, hc32, hL32⟩, rfl⟩
        refine l_l rfl rfl rfl ?_
        refine l_nil ?_
        refine c_seq ?_
        refine c_region ?_
        refine l_l rfl rfl rfl ?_
        refine l_x (x_val call_16 rfl (fun w hw => under_fn _ _ ub (by simp at *; omega) w (hU.later0 hw))) rfl rfl ?_
        rintro _ _ ⟨rfl, rfl⟩
        refine l_x (x_alloc (l := List.replicate 160 (.int .u8 0)) (by kernel_rfl)) rfl rfl ?_
        rintro _ _ ⟨b12, rfl, rfl⟩
        refine l_x (x_store (vs := ((undL ub).map (.int .u8))) (l := List.replicate 160 (.int .u8 0)) 0 rfl rfl rfl (by rw [List.length_map, undL_len]; rfl) (ones_int _ _) rfl (by simp [undL_len])) rfl rfl ?_
        rintro _ _ ⟨rfl, rfl⟩
        rw [List.set_cons_zero, putL_all (by simp [undL_len])]
        refine l_nil ?_
        refine c_seq ?_
        refine c_draw _ [1, 2, 3, 4, 5, 6, 7, 8, 9, 10, 11, 12] (.step true 0 (.step true 1 (.step true 2 (.step true 3 (.step true 4 (.step true 5 (.step true 7 (.step true 8 (.step true 9 (.step true 10 (.step true 11 (.step true 12 (.step false 6 (.step false 13 (.step true 14 (.step true 15 .done)))))))))))))))) rfl (by kernel_rfl) (by kernel_rfl) (fun _ h => h) ?_
        refine d_loadA rfl rfl rfl rfl (srow_own (by repeat (first | exact .head _ | refine .tail _ ?_ | refine List.mem_append_right _ ?_))) rfl rfl ?_
        refine d_light rfl rfl rfl rfl rfl ?_
        refine d_light rfl rfl rfl rfl rfl ?_
        refine d_light rfl rfl rfl rfl rfl ?_
        refine d_as (v := (.int .i64 line)) rfl rfl rfl rfl rfl (congrArg _ (wrap_i64 (by omega) (by omega))) ?_
        refine d_loadA rfl rfl rfl (by rw [List.length_map, undL_len]; rfl) (srow_own (.head _)) rfl rfl ?_
        refine d_loadA rfl rfl rfl rfl (srow_own (by repeat (first | exact .head _ | refine .tail _ ?_ | refine List.mem_append_right _ ?_))) rfl rfl ?_
        refine d_light rfl rfl rfl rfl rfl ?_
        refine d_light rfl rfl rfl rfl rfl ?_
        refine d_light rfl rfl rfl rfl rfl ?_
        refine d_as (v := (.int .i64 line)) rfl rfl rfl rfl rfl (congrArg _ (wrap_i64 (by omega) (by omega))) ?_
        refine d_loadA rfl rfl rfl (by rw [List.length_map, undL_len]; rfl) (srow_own (.head _)) rfl rfl ?_
        refine d_x rfl (x_val call_17 rfl (fun w hw => line_fn c cb cf cs hc hcb hcf hcs _ _ _ _ (filled b) oam (filled_byts hb) ho hcap line (undL ub) (undL_len ub) (undL_byts hub) w (hL32.ns hw (by intro x hx; simp [hx])) (hO.later0 hw))) rfl rfl (by intro _ _ _ hK x hx; obtain ⟨rfl, rfl⟩ := hK; repeat (first | exact hx | refine List.mem_append_right _ ?_ | refine .tail _ ?_)) ?_
        rintro _ _ ⟨rfl, rfl⟩
        refine d_x rfl (x_val call_18 rfl (fun w hw => rline_fn c cb cf cs hc hcb hcf hcs _ _ _ _ (filled b) oam (filled_byts hb) ho hcap line (undL ub) (undL_len ub) (undL_byts hub) w (hL32.ns hw (by intro x hx; simp [hx])) (hO.later0 hw))) rfl rfl (by intro h; cases h) ?_
        rintro _ _ ⟨rfl, rfl⟩
        have hll : lineL (filled b) oam c cb cf cs line (undL ub) = ((List.range 160).map (lineS (filled b) oam c cb cf cs line (undL ub))).map (.int .u8) := by simp [lineL]
        refine d_yield (v := .bool true) rfl rfl rfl (fun w _ => ?_) ?_
        · refine Eq.trans (run_eqa w (xs := ((List.range 160).map (lineS (filled b) oam c cb cf cs line (undL ub)))) (ys := ((List.range 160).map (lineS (filled b) oam c cb cf cs line (undL ub)))) (kd := .u8) (congrArg (fun l => Value.agg (List.toArray l)) hll) (congrArg (fun l => Value.agg (List.toArray l)) hll) (n := 160) (el := 5) rfl rfl (by kernel_rfl) (by simp) (by simp)) (by simp)
        refine d_light rfl rfl rfl rfl rfl ?_
        refine d_nil ?_
        refine c_ret ?_
        exact l_end0 (fun _ _ => rets_v rfl) ⟨rfl, rfl⟩

set_option maxRecDepth 100000 in
set_option maxHeartbeats 4000000 in
theorem spritesNone_fn (w : World) (a : Option Addr) (cap : Nat) (b : List Int) (hb : Byts b) (hB : Ns w .u8 a b) (a2 : Option Addr) (cap2 : Nat) (oam : List Int) (ho : Byts oam) (hcap : oam.length ≤ cap2) (hO : Ns w .u8 a2 oam) (c cb cf cs : Int) (hc : 0 ≤ c ∧ c < 256) (hcb : 0 ≤ cb ∧ cb < 256) (hcf : 0 ≤ cf ∧ cf < 256) (hcs : 0 ≤ cs ∧ cs < 256) (line : Int) (hli : 0 ≤ line ∧ line < 256) (a4 : Option Addr) (cap4 : Nat) (ub : List Int) (hub : Byts ub) (hU : Ns w .u8 a4 ub) :
    Does Try.prog 7 [.slice a b.length cap, .slice a2 oam.length cap2, .agg #[.int .u8 c, .int .u8 cb, .int .u8 cf, .int .u8 cs], .int .u8 line, .slice a4 ub.length cap4] w [] (fun v H => H = [] ∧ v = .bool true) := by
  refine does_of Try.func7 rfl rfl rfl (St.refl w) ?_
  refine c_seq ?_
  refine c_region ?_
  refine l_x (x_box rfl rfl) rfl rfl ?_
  rintro _ _ ⟨b7, rfl, rfl⟩
  refine l_l rfl rfl rfl ?_
  refine l_nil ?_
  refine c_seq ?_
  refine c_seq ?_
  refine c_region ?_
  refine l_x (x_val call_9 rfl (fun w hw => awake_fn w)) rfl rfl ?_
  rintro _ _ ⟨rfl, rfl⟩
  refine l_l rfl rfl rfl ?_
  refine l_l rfl rfl rfl ?_
  refine l_l rfl rfl rfl ?_
  refine l_l (by first | exact light_len rfl rfl | exact light_lens rfl rfl | rfl) rfl rfl ?_
  refine l_l rfl rfl rfl ?_
  refine l_l rfl rfl rfl ?_
  refine l_b rfl rfl rfl (fun h1 => ?_) (fun h1 => ?_)
  · refine l_p rfl rfl ?_
    refine l_p rfl rfl ?_
    refine l_p rfl rfl ?_
    refine l_l rfl rfl rfl ?_
    refine l_l rfl rfl rfl ?_
    refine l_p rfl rfl ?_
    refine l_p rfl rfl ?_
    refine l_p rfl rfl ?_
    refine l_l rfl rfl rfl ?_
    refine l_nil ?_
    refine c_true rfl ?_
    refine c_seq ?_
    refine c_region ?_
    refine l_x (x_val call_9 rfl (fun w hw => awake_fn w)) rfl rfl ?_
    rintro _ _ ⟨rfl, rfl⟩
    refine l_l rfl rfl rfl ?_
    refine l_nil ?_
    refine c_ret ?_
    exact l_end0 (fun _ _ => rets_v rfl) ⟨rfl, rfl⟩
  · refine l_l rfl rfl rfl ?_
    refine l_l (by first | exact light_len rfl rfl | exact light_lens rfl rfl | rfl) rfl rfl ?_
    refine l_l rfl rfl rfl ?_
    refine l_l rfl rfl rfl ?_
    refine l_b rfl rfl rfl (fun h2 => ?_) (fun h2 => ?_)
    · refine l_p rfl rfl ?_
      refine l_p rfl rfl ?_
      refine l_p rfl rfl ?_
      refine l_l rfl rfl rfl ?_
      refine l_nil ?_
      refine c_true rfl ?_
      refine c_seq ?_
      refine c_region ?_
      refine l_x (x_val call_9 rfl (fun w hw => awake_fn w)) rfl rfl ?_
      rintro _ _ ⟨rfl, rfl⟩
      refine l_l rfl rfl rfl ?_
      refine l_nil ?_
      refine c_ret ?_
      exact l_end0 (fun _ _ => rets_v rfl) ⟨rfl, rfl⟩
    · refine l_l rfl rfl rfl ?_
      refine l_l (by first | exact light_len rfl rfl | exact light_lens rfl rfl | rfl) rfl rfl ?_
      refine l_l rfl rfl rfl ?_
      refine l_l rfl rfl rfl ?_
      refine l_nil ?_
      refine c_cond rfl (fun h3 => ?_) (fun h3 => ?_)
      · refine c_seq ?_
        refine c_region ?_
        refine l_x (x_val call_9 rfl (fun w hw => awake_fn w)) rfl rfl ?_
        rintro _ _ ⟨rfl, rfl⟩
        refine l_l rfl rfl rfl ?_
        refine l_nil ?_
        refine c_ret ?_
        exact l_end0 (fun _ _ => rets_v rfl) ⟨rfl, rfl⟩
      · refine c_skip ?_
        refine c_seq ?_
        refine c_region ?_
        refine l_l rfl rfl rfl ?_
        refine l_x (x_call call_10 rfl (fun w hw => filled_fn _ _ b (by simp at *; omega) w (hB.later0 hw))) rfl rfl ?_
        rintro _ _ ⟨G37, ⟨a37, c37, rfl, hc37, hL37⟩, rfl⟩
        refine l_l rfl rfl rfl ?_
        refine l_nil ?_
        refine c_seq ?_
        refine c_region ?_
        refine l_l rfl rfl rfl ?_
        refine l_x (x_val call_16 rfl (fun w hw => under_fn _ _ ub (by simp at *; omega) w (hU.later0 hw))) rfl rfl ?_
        rintro _ _ ⟨rfl, rfl⟩
        refine l_x (x_alloc (l := List.replicate 160 (.int .u8 0)) (by kernel_rfl)) rfl rfl ?_
        rintro _ _ ⟨b12, rfl, rfl⟩
        refine l_x (x_store (vs := ((undL ub).map (.int .u8))) (l := List.replicate 160 (.int .u8 0)) 0 rfl rfl rfl (by rw [List.length_map, undL_len]; rfl) (ones_int _ _) rfl (by simp [undL_len])) rfl rfl ?_
        rintro _ _ ⟨rfl, rfl⟩
        rw [List.set_cons_zero, putL_all (by simp [undL_len])]
        refine l_nil ?_
        refine c_seq ?_
        refine c_region ?_
        refine l_x (x_loadA rfl rfl rfl (row_own (by repeat (first | exact .head _ | refine .tail _ ?_ | refine List.mem_append_right _ ?_)))) rfl rfl ?_
        rintro _ _ ⟨rfl, rfl⟩
        refine l_x (x_alloc rfl) rfl rfl ?_
        rintro _ _ ⟨b13, rfl, rfl⟩
        refine l_x (by first | exact x_store 0 rfl rfl rfl rfl rfl rfl (by first | rfl | exact Nat.le_of_ble_eq_true rfl | (simp; done)) | exact x_store 1 rfl rfl rfl rfl rfl rfl (by first | rfl | exact Nat.le_of_ble_eq_true rfl | (simp; done)) | exact x_store 2 rfl rfl rfl rfl rfl rfl (by first | rfl | exact Nat.le_of_ble_eq_true rfl | (simp; done)) | exact x_store 3 rfl rfl rfl rfl rfl rfl (by first | rfl | exact Nat.le_of_ble_eq_true rfl | (simp; done))) rfl rfl ?_
        rintro _ _ ⟨rfl, rfl⟩
        refine l_nil ?_
        refine c_seq ?_
        refine c_region ?_
        refine l_x (x_loadA rfl rfl rfl (row_own (by repeat (first | exact .head _ | refine .tail _ ?_ | refine List.mem_append_right _ ?_)))) rfl rfl ?_
        rintro _ _ ⟨rfl, rfl⟩
        refine l_x (x_alloc rfl) rfl rfl ?_
        rintro _ _ ⟨b14, rfl, rfl⟩
        refine l_x (by first | exact x_store 0 rfl rfl rfl rfl rfl rfl (by first | rfl | exact Nat.le_of_ble_eq_true rfl | (simp; done)) | exact x_store 1 rfl rfl rfl rfl rfl rfl (by first | rfl | exact Nat.le_of_ble_eq_true rfl | (simp; done)) | exact x_store 2 rfl rfl rfl rfl rfl rfl (by first | rfl | exact Nat.le_of_ble_eq_true rfl | (simp; done)) | exact x_store 3 rfl rfl rfl rfl rfl rfl (by first | rfl | exact Nat.le_of_ble_eq_true rfl | (simp; done))) rfl rfl ?_
        rintro _ _ ⟨rfl, rfl⟩
        refine l_nil ?_
        refine c_seq ?_
        refine c_region ?_
        refine l_l (light_fa rfl rfl) rfl rfl ?_
        refine l_x (x_load rfl rfl (at_own (by repeat (first | exact .head _ | refine .tail _ ?_ | refine List.mem_append_right _ ?_)) (by rfl))) rfl rfl ?_
        rintro _ _ ⟨rfl, rfl⟩
        refine l_l rfl rfl rfl ?_
        refine l_l (light_fa rfl rfl) rfl rfl ?_
        refine l_x (by first | exact x_store 0 rfl rfl rfl rfl rfl rfl (by first | rfl | exact Nat.le_of_ble_eq_true rfl | (simp; done)) | exact x_store 1 rfl rfl rfl rfl rfl rfl (by first | rfl | exact Nat.le_of_ble_eq_true rfl | (simp; done)) | exact x_store 2 rfl rfl rfl rfl rfl rfl (by first | rfl | exact Nat.le_of_ble_eq_true rfl | (simp; done)) | exact x_store 3 rfl rfl rfl rfl rfl rfl (by first | rfl | exact Nat.le_of_ble_eq_true rfl | (simp; done))) rfl rfl ?_
        rintro _ _ ⟨rfl, rfl⟩
        refine l_nil ?_
        refine c_cut (σ := Nat × Nat) [15, 16, 46, 47, 48, 49, 50, 51, 52, 53, 54, 55, 56, 57, 58] (fun s => [(15, .pointer (some ⟨s.1, 0, none⟩)), (16, .pointer (some ⟨s.2, 0, none⟩))]) (fun s => (s.2, blk ((List.range 160).map (fun i => Value.int .u8 (shd cb ((undL ub).getD i 0)))) 36) :: (s.1, blk ((List.range 160).map (fun i => Value.int .u8 (shd cb ((undL ub).getD i 0)))) 36) :: (b14, blk [.int .u8 (bandn .u8 c 2), .int .u8 cb, .int .u8 cf, .int .u8 cs] 27) :: (b13, blk [.int .u8 c, .int .u8 cb, .int .u8 cf, .int .u8 cs] 27) :: (b12, blk ((undL ub).map (.int .u8)) 36) :: (G37 ++ [(b7, blk [.int .u8 c, .int .u8 cb, .int .u8 cf, .int .u8 cs] 24)])) (fun _ => True) ?_ ?_
        · try simp only [List.set_cons_zero, List.set_cons_succ]
          refine c_draw _ [1, 2, 3, 4, 5, 6, 7, 8, 9, 10, 11, 13, 14] (.step true 0 (.step true 1 (.step true 2 (.step true 3 (.step true 4 (.step true 5 (.step true 7 (.step true 8 (.step true 9 (.step true 10 (.step true 11 (.fork 6 (.fork 12 (.fork 13 (.step false 14 (.step false 15 (.step false 16 .done))) (.fork 14 (.step false 13 (.step false 15 (.step false 16 .done))) .stop)) (.fork 13 (.fork 12 (.step false 14 (.step false 15 (.step false 16 .done))) (.fork 14 (.step false 12 (.step false 15 (.step false 16 .done))) .stop)) (.fork 14 (.fork 12 (.step false 13 (.step false 15 (.step false 16 .done))) (.fork 13 (.step false 12 (.step false 15 (.step false 16 .done))) .stop)) .stop))) (.fork 13 (.fork 6 (.fork 12 (.step false 14 (.step false 15 (.step false 16 .done))) (.fork 14 (.step false 12 (.step false 15 (.step false 16 .done))) .stop)) (.fork 14 (.step false 6 (.step false 12 (.step false 15 (.step false 16 .done)))) .stop)) (.fork 14 (.fork 6 (.fork 12 (.step false 13 (.step false 15 (.step false 16 .done))) (.fork 13 (.step false 12 (.step false 15 (.step false 16 .done))) .stop)) (.fork 13 (.step false 6 (.step false 12 (.step false 15 (.step false 16 .done)))) .stop)) .stop)))))))))))))) rfl (by kernel_rfl) (by kernel_rfl) (fun _ h => h) ?_
          refine d_loadA rfl rfl rfl rfl (srow_own (by repeat (first | exact .head _ | refine .tail _ ?_ | refine List.mem_append_right _ ?_))) rfl rfl ?_
          refine d_light rfl rfl rfl rfl rfl ?_
          refine d_light rfl rfl rfl rfl rfl ?_
          refine d_light rfl rfl rfl rfl rfl ?_
          refine d_as (v := (.int .i64 line)) rfl rfl rfl rfl rfl (congrArg _ (wrap_i64 (by omega) (by omega))) ?_
          refine d_loadA rfl rfl rfl (by rw [List.length_map, undL_len]; rfl) (srow_own (.tail _ (.tail _ (.head _)))) rfl rfl ?_
          refine d_loadA rfl rfl rfl rfl (srow_own (by repeat (first | exact .head _ | refine .tail _ ?_ | refine List.mem_append_right _ ?_))) rfl rfl ?_
          refine d_light rfl rfl rfl rfl rfl ?_
          refine d_light rfl rfl rfl rfl rfl ?_
          refine d_as (v := (.int .i64 line)) rfl rfl rfl rfl rfl (congrArg _ (wrap_i64 (by omega) (by omega))) ?_
          refine d_loadA rfl rfl rfl (by rw [List.length_map, undL_len]; rfl) (srow_own (.tail _ (.tail _ (.head _)))) rfl rfl ?_
          refine d_fork ?_ ?_
          · refine d_x rfl (x_val call_17 rfl (fun w hw => line_fn (bandn .u8 c 2) cb cf cs (bandn2 hc).1 hcb hcf hcs _ _ _ _ (filled b) oam (filled_byts hb) ho hcap line (undL ub) (undL_len ub) (undL_byts hub) w (hL37.ns hw (by intro x hx; simp [hx])) (hO.later0 hw))) rfl rfl (by intro _ _ _ hK x hx; obtain ⟨rfl, rfl⟩ := hK; repeat (first | exact hx | refine List.mem_append_right _ ?_ | refine .tail _ ?_)) ?_
            rintro _ _ ⟨rfl, rfl⟩
            rw [line_off _ _ (bandn2 hc).2]
            refine d_fork ?_ ?_
            · refine d_x rfl (x_val call_17 rfl (fun w hw => line_fn c cb cf cs hc hcb hcf hcs _ _ _ _ (filled b) ([] : List Int) (filled_byts hb) (by intro x hx; cases hx) (Nat.le_refl 0) line (undL ub) (undL_len ub) (undL_byts hub) w (hL37.ns hw (by intro x hx; simp [hx])) (Ns.nil _ _ _))) rfl rfl (by intro h; cases h) ?_
              rintro _ _ ⟨rfl, rfl⟩
              rw [line_nil _ _ hli.1]
              refine d_fork ?_ ?_
              · refine d_x rfl (x_alloc (l := List.replicate 160 (.int .u8 0)) (by kernel_rfl)) rfl rfl (by intro _ _ _ hK x hx; obtain ⟨_, rfl, rfl⟩ := hK; repeat (first | exact hx | refine List.mem_append_right _ ?_ | refine .tail _ ?_)) ?_
                rintro _ _ ⟨b15, rfl, rfl⟩
                refine d_x rfl (x_alloc (l := List.replicate 160 (.int .u8 0)) (by kernel_rfl)) rfl rfl (by intro _ _ _ hK x hx; obtain ⟨_, rfl, rfl⟩ := hK; repeat (first | exact hx | refine List.mem_append_right _ ?_ | refine .tail _ ?_)) ?_
                rintro _ _ ⟨b16, rfl, rfl⟩
                refine d_x rfl (by first | exact (x_store (vs := ((List.range 160).map (fun i => Value.int .u8 (shd cb ((undL ub).getD i 0))))) (l := List.replicate 160 (.int .u8 0)) 0 rfl rfl rfl (by rw [List.length_map]; rfl) (shds_ones _ _) rfl (by simp)) | exact (x_store (vs := ((List.range 160).map (fun i => Value.int .u8 (shd cb ((undL ub).getD i 0))))) (l := List.replicate 160 (.int .u8 0)) 1 rfl rfl rfl (by rw [List.length_map]; rfl) (shds_ones _ _) rfl (by simp))) rfl rfl (by intro h; cases h) ?_
                rintro _ _ ⟨rfl, rfl⟩
                rw [putL_all (l := List.replicate 160 (.int .u8 0)) (vs := ((List.range 160).map (fun i => Value.int .u8 (shd cb ((undL ub).getD i 0))))) (by simp)]
                refine d_x rfl (by first | exact (x_store (vs := ((List.range 160).map (fun i => Value.int .u8 (shd cb ((undL ub).getD i 0))))) (l := List.replicate 160 (.int .u8 0)) 0 rfl rfl rfl (by rw [List.length_map]; rfl) (shds_ones _ _) rfl (by simp)) | exact (x_store (vs := ((List.range 160).map (fun i => Value.int .u8 (shd cb ((undL ub).getD i 0))))) (l := List.replicate 160 (.int .u8 0)) 1 rfl rfl rfl (by rw [List.length_map]; rfl) (shds_ones _ _) rfl (by simp))) rfl rfl (by intro h; cases h) ?_
                rintro _ _ ⟨rfl, rfl⟩
                rw [putL_all (l := List.replicate 160 (.int .u8 0)) (vs := ((List.range 160).map (fun i => Value.int .u8 (shd cb ((undL ub).getD i 0))))) (by simp)]
                refine d_nil ?_
                exact ⟨(b15, b16), trivial, .cons rfl (.cons rfl .nil), (by repeat (first | exact Agree.refl _ _ | exact Agree.mix rfl | refine Agree.put rfl ?_ | refine Agree.keep rfl ?_)), fun w h => h⟩
              refine d_fork ?_ ?_
              · refine d_x rfl (x_alloc (l := List.replicate 160 (.int .u8 0)) (by kernel_rfl)) rfl rfl (by intro _ _ _ hK x hx; obtain ⟨_, rfl, rfl⟩ := hK; repeat (first | exact hx | refine List.mem_append_right _ ?_ | refine .tail _ ?_)) ?_
                rintro _ _ ⟨b16, rfl, rfl⟩
                refine d_x rfl (x_alloc (l := List.replicate 160 (.int .u8 0)) (by kernel_rfl)) rfl rfl (by intro _ _ _ hK x hx; obtain ⟨_, rfl, rfl⟩ := hK; repeat (first | exact hx | refine List.mem_append_right _ ?_ | refine .tail _ ?_)) ?_
                rintro _ _ ⟨b15, rfl, rfl⟩
                refine d_x rfl (by first | exact (x_store (vs := ((List.range 160).map (fun i => Value.int .u8 (shd cb ((undL ub).getD i 0))))) (l := List.replicate 160 (.int .u8 0)) 0 rfl rfl rfl (by rw [List.length_map]; rfl) (shds_ones _ _) rfl (by simp)) | exact (x_store (vs := ((List.range 160).map (fun i => Value.int .u8 (shd cb ((undL ub).getD i 0))))) (l := List.replicate 160 (.int .u8 0)) 1 rfl rfl rfl (by rw [List.length_map]; rfl) (shds_ones _ _) rfl (by simp))) rfl rfl (by intro h; cases h) ?_
                rintro _ _ ⟨rfl, rfl⟩
                rw [putL_all (l := List.replicate 160 (.int .u8 0)) (vs := ((List.range 160).map (fun i => Value.int .u8 (shd cb ((undL ub).getD i 0))))) (by simp)]
                refine d_x rfl (by first | exact (x_store (vs := ((List.range 160).map (fun i => Value.int .u8 (shd cb ((undL ub).getD i 0))))) (l := List.replicate 160 (.int .u8 0)) 0 rfl rfl rfl (by rw [List.length_map]; rfl) (shds_ones _ _) rfl (by simp)) | exact (x_store (vs := ((List.range 160).map (fun i => Value.int .u8 (shd cb ((undL ub).getD i 0))))) (l := List.replicate 160 (.int .u8 0)) 1 rfl rfl rfl (by rw [List.length_map]; rfl) (shds_ones _ _) rfl (by simp))) rfl rfl (by intro h; cases h) ?_
                rintro _ _ ⟨rfl, rfl⟩
                rw [putL_all (l := List.replicate 160 (.int .u8 0)) (vs := ((List.range 160).map (fun i => Value.int .u8 (shd cb ((undL ub).getD i 0))))) (by simp)]
                refine d_nil ?_
                exact ⟨(b15, b16), trivial, .cons rfl (.cons rfl .nil), (by repeat (first | exact Agree.refl _ _ | exact Agree.mix rfl | refine Agree.put rfl ?_ | refine Agree.keep rfl ?_)), fun w h => h.perm (List.Perm.swap _ _ _)⟩
              exact d_stop
            refine d_fork ?_ ?_
            · refine d_x rfl (x_alloc (l := List.replicate 160 (.int .u8 0)) (by kernel_rfl)) rfl rfl (by intro _ _ _ hK x hx; obtain ⟨_, rfl, rfl⟩ := hK; repeat (first | exact hx | refine List.mem_append_right _ ?_ | refine .tail _ ?_)) ?_
              rintro _ _ ⟨b15, rfl, rfl⟩
              refine d_fork ?_ ?_
              · refine d_x rfl (x_val call_17 rfl (fun w hw => line_fn c cb cf cs hc hcb hcf hcs _ _ _ _ (filled b) ([] : List Int) (filled_byts hb) (by intro x hx; cases hx) (Nat.le_refl 0) line (undL ub) (undL_len ub) (undL_byts hub) w (hL37.ns hw (by intro x hx; simp [hx])) (Ns.nil _ _ _))) rfl rfl (by intro h; cases h) ?_
                rintro _ _ ⟨rfl, rfl⟩
                rw [line_nil _ _ hli.1]
                refine d_x rfl (x_alloc (l := List.replicate 160 (.int .u8 0)) (by kernel_rfl)) rfl rfl (by intro _ _ _ hK x hx; obtain ⟨_, rfl, rfl⟩ := hK; repeat (first | exact hx | refine List.mem_append_right _ ?_ | refine .tail _ ?_)) ?_
                rintro _ _ ⟨b16, rfl, rfl⟩
                refine d_x rfl (by first | exact (x_store (vs := ((List.range 160).map (fun i => Value.int .u8 (shd cb ((undL ub).getD i 0))))) (l := List.replicate 160 (.int .u8 0)) 0 rfl rfl rfl (by rw [List.length_map]; rfl) (shds_ones _ _) rfl (by simp)) | exact (x_store (vs := ((List.range 160).map (fun i => Value.int .u8 (shd cb ((undL ub).getD i 0))))) (l := List.replicate 160 (.int .u8 0)) 1 rfl rfl rfl (by rw [List.length_map]; rfl) (shds_ones _ _) rfl (by simp))) rfl rfl (by intro h; cases h) ?_
                rintro _ _ ⟨rfl, rfl⟩
                rw [putL_all (l := List.replicate 160 (.int .u8 0)) (vs := ((List.range 160).map (fun i => Value.int .u8 (shd cb ((undL ub).getD i 0))))) (by simp)]
                refine d_x rfl (by first | exact (x_store (vs := ((List.range 160).map (fun i => Value.int .u8 (shd cb ((undL ub).getD i 0))))) (l := List.replicate 160 (.int .u8 0)) 0 rfl rfl rfl (by rw [List.length_map]; rfl) (shds_ones _ _) rfl (by simp)) | exact (x_store (vs := ((List.range 160).map (fun i => Value.int .u8 (shd cb ((undL ub).getD i 0))))) (l := List.replicate 160 (.int .u8 0)) 1 rfl rfl rfl (by rw [List.length_map]; rfl) (shds_ones _ _) rfl (by simp))) rfl rfl (by intro h; cases h) ?_
                rintro _ _ ⟨rfl, rfl⟩
                rw [putL_all (l := List.replicate 160 (.int .u8 0)) (vs := ((List.range 160).map (fun i => Value.int .u8 (shd cb ((undL ub).getD i 0))))) (by simp)]
                refine d_nil ?_
                exact ⟨(b15, b16), trivial, .cons rfl (.cons rfl .nil), (by repeat (first | exact Agree.refl _ _ | exact Agree.mix rfl | refine Agree.put rfl ?_ | refine Agree.keep rfl ?_)), fun w h => h⟩
              refine d_fork ?_ ?_
              · refine d_x rfl (x_alloc (l := List.replicate 160 (.int .u8 0)) (by kernel_rfl)) rfl rfl (by intro _ _ _ hK x hx; obtain ⟨_, rfl, rfl⟩ := hK; repeat (first | exact hx | refine List.mem_append_right _ ?_ | refine .tail _ ?_)) ?_
                rintro _ _ ⟨b16, rfl, rfl⟩
                refine d_x rfl (x_val call_17 rfl (fun w hw => line_fn c cb cf cs hc hcb hcf hcs _ _ _ _ (filled b) ([] : List Int) (filled_byts hb) (by intro x hx; cases hx) (Nat.le_refl 0) line (undL ub) (undL_len ub) (undL_byts hub) w (hL37.ns hw (by intro x hx; simp [hx])) (Ns.nil _ _ _))) rfl rfl (by intro h; cases h) ?_
                rintro _ _ ⟨rfl, rfl⟩
                rw [line_nil _ _ hli.1]
                refine d_x rfl (by first | exact (x_store (vs := ((List.range 160).map (fun i => Value.int .u8 (shd cb ((undL ub).getD i 0))))) (l := List.replicate 160 (.int .u8 0)) 0 rfl rfl rfl (by rw [List.length_map]; rfl) (shds_ones _ _) rfl (by simp)) | exact (x_store (vs := ((List.range 160).map (fun i => Value.int .u8 (shd cb ((undL ub).getD i 0))))) (l := List.replicate 160 (.int .u8 0)) 1 rfl rfl rfl (by rw [List.length_map]; rfl) (shds_ones _ _) rfl (by simp))) rfl rfl (by intro h; cases h) ?_
                rintro _ _ ⟨rfl, rfl⟩
                rw [putL_all (l := List.replicate 160 (.int .u8 0)) (vs := ((List.range 160).map (fun i => Value.int .u8 (shd cb ((undL ub).getD i 0))))) (by simp)]
                refine d_x rfl (by first | exact (x_store (vs := ((List.range 160).map (fun i => Value.int .u8 (shd cb ((undL ub).getD i 0))))) (l := List.replicate 160 (.int .u8 0)) 0 rfl rfl rfl (by rw [List.length_map]; rfl) (shds_ones _ _) rfl (by simp)) | exact (x_store (vs := ((List.range 160).map (fun i => Value.int .u8 (shd cb ((undL ub).getD i 0))))) (l := List.replicate 160 (.int .u8 0)) 1 rfl rfl rfl (by rw [List.length_map]; rfl) (shds_ones _ _) rfl (by simp))) rfl rfl (by intro h; cases h) ?_
                rintro _ _ ⟨rfl, rfl⟩
                rw [putL_all (l := List.replicate 160 (.int .u8 0)) (vs := ((List.range 160).map (fun i => Value.int .u8 (shd cb ((undL ub).getD i 0))))) (by simp)]
                refine d_nil ?_
                exact ⟨(b15, b16), trivial, .cons rfl (.cons rfl .nil), (by repeat (first | exact Agree.refl _ _ | exact Agree.mix rfl | refine Agree.put rfl ?_ | refine Agree.keep rfl ?_)), fun w h => h⟩
              exact d_stop
            refine d_fork ?_ ?_
            · refine d_x rfl (x_alloc (l := List.replicate 160 (.int .u8 0)) (by kernel_rfl)) rfl rfl (by intro _ _ _ hK x hx; obtain ⟨_, rfl, rfl⟩ := hK; repeat (first | exact hx | refine List.mem_append_right _ ?_ | refine .tail _ ?_)) ?_
              rintro _ _ ⟨b16, rfl, rfl⟩
              refine d_fork ?_ ?_
              · refine d_x rfl (x_val call_17 rfl (fun w hw => line_fn c cb cf cs hc hcb hcf hcs _ _ _ _ (filled b) ([] : List Int) (filled_byts hb) (by intro x hx; cases hx) (Nat.le_refl 0) line (undL ub) (undL_len ub) (undL_byts hub) w (hL37.ns hw (by intro x hx; simp [hx])) (Ns.nil _ _ _))) rfl rfl (by intro h; cases h) ?_
                rintro _ _ ⟨rfl, rfl⟩
                rw [line_nil _ _ hli.1]
                refine d_x rfl (x_alloc (l := List.replicate 160 (.int .u8 0)) (by kernel_rfl)) rfl rfl (by intro _ _ _ hK x hx; obtain ⟨_, rfl, rfl⟩ := hK; repeat (first | exact hx | refine List.mem_append_right _ ?_ | refine .tail _ ?_)) ?_
                rintro _ _ ⟨b15, rfl, rfl⟩
                refine d_x rfl (by first | exact (x_store (vs := ((List.range 160).map (fun i => Value.int .u8 (shd cb ((undL ub).getD i 0))))) (l := List.replicate 160 (.int .u8 0)) 0 rfl rfl rfl (by rw [List.length_map]; rfl) (shds_ones _ _) rfl (by simp)) | exact (x_store (vs := ((List.range 160).map (fun i => Value.int .u8 (shd cb ((undL ub).getD i 0))))) (l := List.replicate 160 (.int .u8 0)) 1 rfl rfl rfl (by rw [List.length_map]; rfl) (shds_ones _ _) rfl (by simp))) rfl rfl (by intro h; cases h) ?_
                rintro _ _ ⟨rfl, rfl⟩
                rw [putL_all (l := List.replicate 160 (.int .u8 0)) (vs := ((List.range 160).map (fun i => Value.int .u8 (shd cb ((undL ub).getD i 0))))) (by simp)]
                refine d_x rfl (by first | exact (x_store (vs := ((List.range 160).map (fun i => Value.int .u8 (shd cb ((undL ub).getD i 0))))) (l := List.replicate 160 (.int .u8 0)) 0 rfl rfl rfl (by rw [List.length_map]; rfl) (shds_ones _ _) rfl (by simp)) | exact (x_store (vs := ((List.range 160).map (fun i => Value.int .u8 (shd cb ((undL ub).getD i 0))))) (l := List.replicate 160 (.int .u8 0)) 1 rfl rfl rfl (by rw [List.length_map]; rfl) (shds_ones _ _) rfl (by simp))) rfl rfl (by intro h; cases h) ?_
                rintro _ _ ⟨rfl, rfl⟩
                rw [putL_all (l := List.replicate 160 (.int .u8 0)) (vs := ((List.range 160).map (fun i => Value.int .u8 (shd cb ((undL ub).getD i 0))))) (by simp)]
                refine d_nil ?_
                exact ⟨(b15, b16), trivial, .cons rfl (.cons rfl .nil), (by repeat (first | exact Agree.refl _ _ | exact Agree.mix rfl | refine Agree.put rfl ?_ | refine Agree.keep rfl ?_)), fun w h => h.perm (List.Perm.swap _ _ _)⟩
              refine d_fork ?_ ?_
              · refine d_x rfl (x_alloc (l := List.replicate 160 (.int .u8 0)) (by kernel_rfl)) rfl rfl (by intro _ _ _ hK x hx; obtain ⟨_, rfl, rfl⟩ := hK; repeat (first | exact hx | refine List.mem_append_right _ ?_ | refine .tail _ ?_)) ?_
                rintro _ _ ⟨b15, rfl, rfl⟩
                refine d_x rfl (x_val call_17 rfl (fun w hw => line_fn c cb cf cs hc hcb hcf hcs _ _ _ _ (filled b) ([] : List Int) (filled_byts hb) (by intro x hx; cases hx) (Nat.le_refl 0) line (undL ub) (undL_len ub) (undL_byts hub) w (hL37.ns hw (by intro x hx; simp [hx])) (Ns.nil _ _ _))) rfl rfl (by intro h; cases h) ?_
                rintro _ _ ⟨rfl, rfl⟩
                rw [line_nil _ _ hli.1]
                refine d_x rfl (by first | exact (x_store (vs := ((List.range 160).map (fun i => Value.int .u8 (shd cb ((undL ub).getD i 0))))) (l := List.replicate 160 (.int .u8 0)) 0 rfl rfl rfl (by rw [List.length_map]; rfl) (shds_ones _ _) rfl (by simp)) | exact (x_store (vs := ((List.range 160).map (fun i => Value.int .u8 (shd cb ((undL ub).getD i 0))))) (l := List.replicate 160 (.int .u8 0)) 1 rfl rfl rfl (by rw [List.length_map]; rfl) (shds_ones _ _) rfl (by simp))) rfl rfl (by intro h; cases h) ?_
                rintro _ _ ⟨rfl, rfl⟩
                rw [putL_all (l := List.replicate 160 (.int .u8 0)) (vs := ((List.range 160).map (fun i => Value.int .u8 (shd cb ((undL ub).getD i 0))))) (by simp)]
                refine d_x rfl (by first | exact (x_store (vs := ((List.range 160).map (fun i => Value.int .u8 (shd cb ((undL ub).getD i 0))))) (l := List.replicate 160 (.int .u8 0)) 0 rfl rfl rfl (by rw [List.length_map]; rfl) (shds_ones _ _) rfl (by simp)) | exact (x_store (vs := ((List.range 160).map (fun i => Value.int .u8 (shd cb ((undL ub).getD i 0))))) (l := List.replicate 160 (.int .u8 0)) 1 rfl rfl rfl (by rw [List.length_map]; rfl) (shds_ones _ _) rfl (by simp))) rfl rfl (by intro h; cases h) ?_
                rintro _ _ ⟨rfl, rfl⟩
                rw [putL_all (l := List.replicate 160 (.int .u8 0)) (vs := ((List.range 160).map (fun i => Value.int .u8 (shd cb ((undL ub).getD i 0))))) (by simp)]
                refine d_nil ?_
                exact ⟨(b15, b16), trivial, .cons rfl (.cons rfl .nil), (by repeat (first | exact Agree.refl _ _ | exact Agree.mix rfl | refine Agree.put rfl ?_ | refine Agree.keep rfl ?_)), fun w h => h.perm (List.Perm.swap _ _ _)⟩
              exact d_stop
            exact d_stop
          refine d_fork ?_ ?_
          · refine d_x rfl (x_alloc (l := List.replicate 160 (.int .u8 0)) (by kernel_rfl)) rfl rfl (by intro _ _ _ hK x hx; obtain ⟨_, rfl, rfl⟩ := hK; repeat (first | exact hx | refine List.mem_append_right _ ?_ | refine .tail _ ?_)) ?_
            rintro _ _ ⟨b15, rfl, rfl⟩
            refine d_fork ?_ ?_
            · refine d_x rfl (x_val call_17 rfl (fun w hw => line_fn (bandn .u8 c 2) cb cf cs (bandn2 hc).1 hcb hcf hcs _ _ _ _ (filled b) oam (filled_byts hb) ho hcap line (undL ub) (undL_len ub) (undL_byts hub) w (hL37.ns hw (by intro x hx; simp [hx])) (hO.later0 hw))) rfl rfl (by intro _ _ _ hK x hx; obtain ⟨rfl, rfl⟩ := hK; repeat (first | exact hx | refine List.mem_append_right _ ?_ | refine .tail _ ?_)) ?_
              rintro _ _ ⟨rfl, rfl⟩
              rw [line_off _ _ (bandn2 hc).2]
              refine d_fork ?_ ?_
              · refine d_x rfl (x_val call_17 rfl (fun w hw => line_fn c cb cf cs hc hcb hcf hcs _ _ _ _ (filled b) ([] : List Int) (filled_byts hb) (by intro x hx; cases hx) (Nat.le_refl 0) line (undL ub) (undL_len ub) (undL_byts hub) w (hL37.ns hw (by intro x hx; simp [hx])) (Ns.nil _ _ _))) rfl rfl (by intro h; cases h) ?_
                rintro _ _ ⟨rfl, rfl⟩
                rw [line_nil _ _ hli.1]
                refine d_x rfl (x_alloc (l := List.replicate 160 (.int .u8 0)) (by kernel_rfl)) rfl rfl (by intro _ _ _ hK x hx; obtain ⟨_, rfl, rfl⟩ := hK; repeat (first | exact hx | refine List.mem_append_right _ ?_ | refine .tail _ ?_)) ?_
                rintro _ _ ⟨b16, rfl, rfl⟩
                refine d_x rfl (by first | exact (x_store (vs := ((List.range 160).map (fun i => Value.int .u8 (shd cb ((undL ub).getD i 0))))) (l := List.replicate 160 (.int .u8 0)) 0 rfl rfl rfl (by rw [List.length_map]; rfl) (shds_ones _ _) rfl (by simp)) | exact (x_store (vs := ((List.range 160).map (fun i => Value.int .u8 (shd cb ((undL ub).getD i 0))))) (l := List.replicate 160 (.int .u8 0)) 1 rfl rfl rfl (by rw [List.length_map]; rfl) (shds_ones _ _) rfl (by simp))) rfl rfl (by intro h; cases h) ?_
                rintro _ _ ⟨rfl, rfl⟩
                rw [putL_all (l := List.replicate 160 (.int .u8 0)) (vs := ((List.range 160).map (fun i => Value.int .u8 (shd cb ((undL ub).getD i 0))))) (by simp)]
                refine d_x rfl (by first | exact (x_store (vs := ((List.range 160).map (fun i => Value.int .u8 (shd cb ((undL ub).getD i 0))))) (l := List.replicate 160 (.int .u8 0)) 0 rfl rfl rfl (by rw [List.length_map]; rfl) (shds_ones _ _) rfl (by simp)) | exact (x_store (vs := ((List.range 160).map (fun i => Value.int .u8 (shd cb ((undL ub).getD i 0))))) (l := List.replicate 160 (.int .u8 0)) 1 rfl rfl rfl (by rw [List.length_map]; rfl) (shds_ones _ _) rfl (by simp))) rfl rfl (by intro h; cases h) ?_
                rintro _ _ ⟨rfl, rfl⟩
                rw [putL_all (l := List.replicate 160 (.int .u8 0)) (vs := ((List.range 160).map (fun i => Value.int .u8 (shd cb ((undL ub).getD i 0))))) (by simp)]
                refine d_nil ?_
                exact ⟨(b15, b16), trivial, .cons rfl (.cons rfl .nil), (by repeat (first | exact Agree.refl _ _ | exact Agree.mix rfl | refine Agree.put rfl ?_ | refine Agree.keep rfl ?_)), fun w h => h⟩
              refine d_fork ?_ ?_
              · refine d_x rfl (x_alloc (l := List.replicate 160 (.int .u8 0)) (by kernel_rfl)) rfl rfl (by intro _ _ _ hK x hx; obtain ⟨_, rfl, rfl⟩ := hK; repeat (first | exact hx | refine List.mem_append_right _ ?_ | refine .tail _ ?_)) ?_
                rintro _ _ ⟨b16, rfl, rfl⟩
                refine d_x rfl (x_val call_17 rfl (fun w hw => line_fn c cb cf cs hc hcb hcf hcs _ _ _ _ (filled b) ([] : List Int) (filled_byts hb) (by intro x hx; cases hx) (Nat.le_refl 0) line (undL ub) (undL_len ub) (undL_byts hub) w (hL37.ns hw (by intro x hx; simp [hx])) (Ns.nil _ _ _))) rfl rfl (by intro h; cases h) ?_
                rintro _ _ ⟨rfl, rfl⟩
                rw [line_nil _ _ hli.1]
                refine d_x rfl (by first | exact (x_store (vs := ((List.range 160).map (fun i => Value.int .u8 (shd cb ((undL ub).getD i 0))))) (l := List.replicate 160 (.int .u8 0)) 0 rfl rfl rfl (by rw [List.length_map]; rfl) (shds_ones _ _) rfl (by simp)) | exact (x_store (vs := ((List.range 160).map (fun i => Value.int .u8 (shd cb ((undL ub).getD i 0))))) (l := List.replicate 160 (.int .u8 0)) 1 rfl rfl rfl (by rw [List.length_map]; rfl) (shds_ones _ _) rfl (by simp))) rfl rfl (by intro h; cases h) ?_
                rintro _ _ ⟨rfl, rfl⟩
                rw [putL_all (l := List.replicate 160 (.int .u8 0)) (vs := ((List.range 160).map (fun i => Value.int .u8 (shd cb ((undL ub).getD i 0))))) (by simp)]
                refine d_x rfl (by first | exact (x_store (vs := ((List.range 160).map (fun i => Value.int .u8 (shd cb ((undL ub).getD i 0))))) (l := List.replicate 160 (.int .u8 0)) 0 rfl rfl rfl (by rw [List.length_map]; rfl) (shds_ones _ _) rfl (by simp)) | exact (x_store (vs := ((List.range 160).map (fun i => Value.int .u8 (shd cb ((undL ub).getD i 0))))) (l := List.replicate 160 (.int .u8 0)) 1 rfl rfl rfl (by rw [List.length_map]; rfl) (shds_ones _ _) rfl (by simp))) rfl rfl (by intro h; cases h) ?_
                rintro _ _ ⟨rfl, rfl⟩
                rw [putL_all (l := List.replicate 160 (.int .u8 0)) (vs := ((List.range 160).map (fun i => Value.int .u8 (shd cb ((undL ub).getD i 0))))) (by simp)]
                refine d_nil ?_
                exact ⟨(b15, b16), trivial, .cons rfl (.cons rfl .nil), (by repeat (first | exact Agree.refl _ _ | exact Agree.mix rfl | refine Agree.put rfl ?_ | refine Agree.keep rfl ?_)), fun w h => h⟩
              exact d_stop
            refine d_fork ?_ ?_
            · refine d_x rfl (x_alloc (l := List.replicate 160 (.int .u8 0)) (by kernel_rfl)) rfl rfl (by intro _ _ _ hK x hx; obtain ⟨_, rfl, rfl⟩ := hK; repeat (first | exact hx | refine List.mem_append_right _ ?_ | refine .tail _ ?_)) ?_
              rintro _ _ ⟨b16, rfl, rfl⟩
              refine d_x rfl (x_val call_17 rfl (fun w hw => line_fn (bandn .u8 c 2) cb cf cs (bandn2 hc).1 hcb hcf hcs _ _ _ _ (filled b) oam (filled_byts hb) ho hcap line (undL ub) (undL_len ub) (undL_byts hub) w (hL37.ns hw (by intro x hx; simp [hx])) (hO.later0 hw))) rfl rfl (by intro _ _ _ hK x hx; obtain ⟨rfl, rfl⟩ := hK; repeat (first | exact hx | refine List.mem_append_right _ ?_ | refine .tail _ ?_)) ?_
              rintro _ _ ⟨rfl, rfl⟩
              rw [line_off _ _ (bandn2 hc).2]
              refine d_x rfl (x_val call_17 rfl (fun w hw => line_fn c cb cf cs hc hcb hcf hcs _ _ _ _ (filled b) ([] : List Int) (filled_byts hb) (by intro x hx; cases hx) (Nat.le_refl 0) line (undL ub) (undL_len ub) (undL_byts hub) w (hL37.ns hw (by intro x hx; simp [hx])) (Ns.nil _ _ _))) rfl rfl (by intro h; cases h) ?_
              rintro _ _ ⟨rfl, rfl⟩
              rw [line_nil _ _ hli.1]
              refine d_x rfl (by first | exact (x_store (vs := ((List.range 160).map (fun i => Value.int .u8 (shd cb ((undL ub).getD i 0))))) (l := List.replicate 160 (.int .u8 0)) 0 rfl rfl rfl (by rw [List.length_map]; rfl) (shds_ones _ _) rfl (by simp)) | exact (x_store (vs := ((List.range 160).map (fun i => Value.int .u8 (shd cb ((undL ub).getD i 0))))) (l := List.replicate 160 (.int .u8 0)) 1 rfl rfl rfl (by rw [List.length_map]; rfl) (shds_ones _ _) rfl (by simp))) rfl rfl (by intro h; cases h) ?_
              rintro _ _ ⟨rfl, rfl⟩
              rw [putL_all (l := List.replicate 160 (.int .u8 0)) (vs := ((List.range 160).map (fun i => Value.int .u8 (shd cb ((undL ub).getD i 0))))) (by simp)]
              refine d_x rfl (by first | exact (x_store (vs := ((List.range 160).map (fun i => Value.int .u8 (shd cb ((undL ub).getD i 0))))) (l := List.replicate 160 (.int .u8 0)) 0 rfl rfl rfl (by rw [List.length_map]; rfl) (shds_ones _ _) rfl (by simp)) | exact (x_store (vs := ((List.range 160).map (fun i => Value.int .u8 (shd cb ((undL ub).getD i 0))))) (l := List.replicate 160 (.int .u8 0)) 1 rfl rfl rfl (by rw [List.length_map]; rfl) (shds_ones _ _) rfl (by simp))) rfl rfl (by intro h; cases h) ?_
              rintro _ _ ⟨rfl, rfl⟩
              rw [putL_all (l := List.replicate 160 (.int .u8 0)) (vs := ((List.range 160).map (fun i => Value.int .u8 (shd cb ((undL ub).getD i 0))))) (by simp)]
              refine d_nil ?_
              exact ⟨(b15, b16), trivial, .cons rfl (.cons rfl .nil), (by repeat (first | exact Agree.refl _ _ | exact Agree.mix rfl | refine Agree.put rfl ?_ | refine Agree.keep rfl ?_)), fun w h => h⟩
            exact d_stop
          refine d_fork ?_ ?_
          · refine d_x rfl (x_alloc (l := List.replicate 160 (.int .u8 0)) (by kernel_rfl)) rfl rfl (by intro _ _ _ hK x hx; obtain ⟨_, rfl, rfl⟩ := hK; repeat (first | exact hx | refine List.mem_append_right _ ?_ | refine .tail _ ?_)) ?_
            rintro _ _ ⟨b16, rfl, rfl⟩
            refine d_fork ?_ ?_
            · refine d_x rfl (x_val call_17 rfl (fun w hw => line_fn (bandn .u8 c 2) cb cf cs (bandn2 hc).1 hcb hcf hcs _ _ _ _ (filled b) oam (filled_byts hb) ho hcap line (undL ub) (undL_len ub) (undL_byts hub) w (hL37.ns hw (by intro x hx; simp [hx])) (hO.later0 hw))) rfl rfl (by intro _ _ _ hK x hx; obtain ⟨rfl, rfl⟩ := hK; repeat (first | exact hx | refine List.mem_append_right _ ?_ | refine .tail _ ?_)) ?_
              rintro _ _ ⟨rfl, rfl⟩
              rw [line_off _ _ (bandn2 hc).2]
              refine d_fork ?_ ?_
              · refine d_x rfl (x_val call_17 rfl (fun w hw => line_fn c cb cf cs hc hcb hcf hcs _ _ _ _ (filled b) ([] : List Int) (filled_byts hb) (by intro x hx; cases hx) (Nat.le_refl 0) line (undL ub) (undL_len ub) (undL_byts hub) w (hL37.ns hw (by intro x hx; simp [hx])) (Ns.nil _ _ _))) rfl rfl (by intro h; cases h) ?_
                rintro _ _ ⟨rfl, rfl⟩
                rw [line_nil _ _ hli.1]
                refine d_x rfl (x_alloc (l := List.replicate 160 (.int .u8 0)) (by kernel_rfl)) rfl rfl (by intro _ _ _ hK x hx; obtain ⟨_, rfl, rfl⟩ := hK; repeat (first | exact hx | refine List.mem_append_right _ ?_ | refine .tail _ ?_)) ?_
                rintro _ _ ⟨b15, rfl, rfl⟩
                refine d_x rfl (by first | exact (x_store (vs := ((List.range 160).map (fun i => Value.int .u8 (shd cb ((undL ub).getD i 0))))) (l := List.replicate 160 (.int .u8 0)) 0 rfl rfl rfl (by rw [List.length_map]; rfl) (shds_ones _ _) rfl (by simp)) | exact (x_store (vs := ((List.range 160).map (fun i => Value.int .u8 (shd cb ((undL ub).getD i 0))))) (l := List.replicate 160 (.int .u8 0)) 1 rfl rfl rfl (by rw [List.length_map]; rfl) (shds_ones _ _) rfl (by simp))) rfl rfl (by intro h; cases h) ?_
                rintro _ _ ⟨rfl, rfl⟩
                rw [putL_all (l := List.replicate 160 (.int .u8 0)) (vs := ((List.range 160).map (fun i => Value.int .u8 (shd cb ((undL ub).getD i 0))))) (by simp)]
                refine d_x rfl (by first | exact (x_store (vs := ((List.range 160).map (fun i => Value.int .u8 (shd cb ((undL ub).getD i 0))))) (l := List.replicate 160 (.int .u8 0)) 0 rfl rfl rfl (by rw [List.length_map]; rfl) (shds_ones _ _) rfl (by simp)) | exact (x_store (vs := ((List.range 160).map (fun i => Value.int .u8 (shd cb ((undL ub).getD i 0))))) (l := List.replicate 160 (.int .u8 0)) 1 rfl rfl rfl (by rw [List.length_map]; rfl) (shds_ones _ _) rfl (by simp))) rfl rfl (by intro h; cases h) ?_
                rintro _ _ ⟨rfl, rfl⟩
                rw [putL_all (l := List.replicate 160 (.int .u8 0)) (vs := ((List.range 160).map (fun i => Value.int .u8 (shd cb ((undL ub).getD i 0))))) (by simp)]
                refine d_nil ?_
                exact ⟨(b15, b16), trivial, .cons rfl (.cons rfl .nil), (by repeat (first | exact Agree.refl _ _ | exact Agree.mix rfl | refine Agree.put rfl ?_ | refine Agree.keep rfl ?_)), fun w h => h.perm (List.Perm.swap _ _ _)⟩
              refine d_fork ?_ ?_
              · refine d_x rfl (x_alloc (l := List.replicate 160 (.int .u8 0)) (by kernel_rfl)) rfl rfl (by intro _ _ _ hK x hx; obtain ⟨_, rfl, rfl⟩ := hK; repeat (first | exact hx | refine List.mem_append_right _ ?_ | refine .tail _ ?_)) ?_
                rintro _ _ ⟨b15, rfl, rfl⟩
                refine d_x rfl (x_val call_17 rfl (fun w hw => line_fn c cb cf cs hc hcb hcf hcs _ _ _ _ (filled b) ([] : List Int) (filled_byts hb) (by intro x hx; cases hx) (Nat.le_refl 0) line (undL ub) (undL_len ub) (undL_byts hub) w (hL37.ns hw (by intro x hx; simp [hx])) (Ns.nil _ _ _))) rfl rfl (by intro h; cases h) ?_
                rintro _ _ ⟨rfl, rfl⟩
                rw [line_nil _ _ hli.1]
                refine d_x rfl (by first | exact (x_store (vs := ((List.range 160).map (fun i => Value.int .u8 (shd cb ((undL ub).getD i 0))))) (l := List.replicate 160 (.int .u8 0)) 0 rfl rfl rfl (by rw [List.length_map]; rfl) (shds_ones _ _) rfl (by simp)) | exact (x_store (vs := ((List.range 160).map (fun i => Value.int .u8 (shd cb ((undL ub).getD i 0))))) (l := List.replicate 160 (.int .u8 0)) 1 rfl rfl rfl (by rw [List.length_map]; rfl) (shds_ones _ _) rfl (by simp))) rfl rfl (by intro h; cases h) ?_
                rintro _ _ ⟨rfl, rfl⟩
                rw [putL_all (l := List.replicate 160 (.int .u8 0)) (vs := ((List.range 160).map (fun i => Value.int .u8 (shd cb ((undL ub).getD i 0))))) (by simp)]
                refine d_x rfl (by first | exact (x_store (vs := ((List.range 160).map (fun i => Value.int .u8 (shd cb ((undL ub).getD i 0))))) (l := List.replicate 160 (.int .u8 0)) 0 rfl rfl rfl (by rw [List.length_map]; rfl) (shds_ones _ _) rfl (by simp)) | exact (x_store (vs := ((List.range 160).map (fun i => Value.int .u8 (shd cb ((undL ub).getD i 0))))) (l := List.replicate 160 (.int .u8 0)) 1 rfl rfl rfl (by rw [List.length_map]; rfl) (shds_ones _ _) rfl (by simp))) rfl rfl (by intro h; cases h) ?_
                rintro _ _ ⟨rfl, rfl⟩
                rw [putL_all (l := List.replicate 160 (.int .u8 0)) (vs := ((List.range 160).map (fun i => Value.int .u8 (shd cb ((undL ub).getD i 0))))) (by simp)]
                refine d_nil ?_
                exact ⟨(b15, b16), trivial, .cons rfl (.cons rfl .nil), (by repeat (first | exact Agree.refl _ _ | exact Agree.mix rfl | refine Agree.put rfl ?_ | refine Agree.keep rfl ?_)), fun w h => h.perm (List.Perm.swap _ _ _)⟩
              exact d_stop
            refine d_fork ?_ ?_
            · refine d_x rfl (x_alloc (l := List.replicate 160 (.int .u8 0)) (by kernel_rfl)) rfl rfl (by intro _ _ _ hK x hx; obtain ⟨_, rfl, rfl⟩ := hK; repeat (first | exact hx | refine List.mem_append_right _ ?_ | refine .tail _ ?_)) ?_
              rintro _ _ ⟨b15, rfl, rfl⟩
              refine d_x rfl (x_val call_17 rfl (fun w hw => line_fn (bandn .u8 c 2) cb cf cs (bandn2 hc).1 hcb hcf hcs _ _ _ _ (filled b) oam (filled_byts hb) ho hcap line (undL ub) (undL_len ub) (undL_byts hub) w (hL37.ns hw (by intro x hx; simp [hx])) (hO.later0 hw))) rfl rfl (by intro _ _ _ hK x hx; obtain ⟨rfl, rfl⟩ := hK; repeat (first | exact hx | refine List.mem_append_right _ ?_ | refine .tail _ ?_)) ?_
              rintro _ _ ⟨rfl, rfl⟩
              rw [line_off _ _ (bandn2 hc).2]
              refine d_x rfl (x_val call_17 rfl (fun w hw => line_fn c cb cf cs hc hcb hcf hcs _ _ _ _ (filled b) ([] : List Int) (filled_byts hb) (by intro x hx; cases hx) (Nat.le_refl 0) line (undL ub) (undL_len ub) (undL_byts hub) w (hL37.ns hw (by intro x hx; simp [hx])) (Ns.nil _ _ _))) rfl rfl (by intro h; cases h) ?_
              rintro _ _ ⟨rfl, rfl⟩
              rw [line_nil _ _ hli.1]
              refine d_x rfl (by first | exact (x_store (vs := ((List.range 160).map (fun i => Value.int .u8 (shd cb ((undL ub).getD i 0))))) (l := List.replicate 160 (.int .u8 0)) 0 rfl rfl rfl (by rw [List.length_map]; rfl) (shds_ones _ _) rfl (by simp)) | exact (x_store (vs := ((List.range 160).map (fun i => Value.int .u8 (shd cb ((undL ub).getD i 0))))) (l := List.replicate 160 (.int .u8 0)) 1 rfl rfl rfl (by rw [List.length_map]; rfl) (shds_ones _ _) rfl (by simp))) rfl rfl (by intro h; cases h) ?_
              rintro _ _ ⟨rfl, rfl⟩
              rw [putL_all (l := List.replicate 160 (.int .u8 0)) (vs := ((List.range 160).map (fun i => Value.int .u8 (shd cb ((undL ub).getD i 0))))) (by simp)]
              refine d_x rfl (by first | exact (x_store (vs := ((List.range 160).map (fun i => Value.int .u8 (shd cb ((undL ub).getD i 0))))) (l := List.replicate 160 (.int .u8 0)) 0 rfl rfl rfl (by rw [List.length_map]; rfl) (shds_ones _ _) rfl (by simp)) | exact (x_store (vs := ((List.range 160).map (fun i => Value.int .u8 (shd cb ((undL ub).getD i 0))))) (l := List.replicate 160 (.int .u8 0)) 1 rfl rfl rfl (by rw [List.length_map]; rfl) (shds_ones _ _) rfl (by simp))) rfl rfl (by intro h; cases h) ?_
              rintro _ _ ⟨rfl, rfl⟩
              rw [putL_all (l := List.replicate 160 (.int .u8 0)) (vs := ((List.range 160).map (fun i => Value.int .u8 (shd cb ((undL ub).getD i 0))))) (by simp)]
              refine d_nil ?_
              exact ⟨(b15, b16), trivial, .cons rfl (.cons rfl .nil), (by repeat (first | exact Agree.refl _ _ | exact Agree.mix rfl | refine Agree.put rfl ?_ | refine Agree.keep rfl ?_)), fun w h => h.perm (List.Perm.swap _ _ _)⟩
            exact d_stop
          exact d_stop
        · rintro ⟨b15, b16⟩ y8 _
          refine c_seq ?_
          refine c_seq ?_
          refine c_region ?_
          refine l_l rfl rfl rfl ?_
          refine l_nil ?_
          refine c_block ?_
          refine c_loopk (σ := Nat) [10, 17, 59, 60, 61, 62, 63, 64, 65, 66, 67, 68, 69, 70, 71, 72, 73, 74, 75, 76, 77, 78, 79, 80, 81, 82, 83, 84, 85] (fun k => [(59, .int .i64 k)]) (fun k => k ≤ 160) (fun k => 160 - k) 0 ?_ ?_ ?_
          · show 0 ≤ 160; omega
          · exact .cons rfl .nil
          · intro k y hk
            refine c_seq ?_
            refine c_region ?_
            refine l_l rfl rfl rfl ?_
            refine l_nil ?_
            refine c_seq ?_
            refine c_cond rfl (fun h4 => ?_) (fun h4 => ?_)
            · refine c_skip ?_
              refine c_seq ?_
              refine c_block ?_
              refine c_seq ?_
              refine c_region ?_
              refine l_l rfl rfl rfl ?_
              refine l_l rfl rfl rfl ?_
              refine l_nil ?_
              refine c_seq ?_
              have hk160 : k < 160 := by simp at *; omega
              refine c_draw _ [3, 4, 5, 6, 7, 8, 14, 15, 16] (.step true 0 (.step true 1 (.step true 2 (.step true 3 (.step true 4 (.step true 5 (.step true 6 (.step true 7 (.step false 8 (.step true 9 (.step true 10 (.step true 11 (.step true 12 (.step true 13 (.step true 14 (.step true 15 (.step true 16 (.step true 17 (.step true 18 (.step true 19 (.step true 20 (.step true 21 (.step true 22 .done))))))))))))))))))))))) rfl (by kernel_rfl) (by kernel_rfl) (fun _ h => h) ?_
              refine d_light rfl rfl rfl rfl rfl ?_
              refine d_light rfl (idx_array0 k rfl rfl rfl rfl hk160) rfl rfl rfl ?_
              refine d_load rfl rfl rfl (s_own (.tail _ (.head _)) (shds_get (by omega))) rfl rfl ?_
              refine d_light rfl (light_fa rfl rfl) rfl rfl rfl ?_
              refine d_load rfl rfl rfl (s_own (by repeat (first | exact .head _ | refine .tail _ ?_ | refine List.mem_append_right _ ?_)) (by rfl)) rfl rfl ?_
              refine d_light rfl rfl rfl rfl rfl ?_
              refine d_light rfl (idx_array0 k rfl rfl rfl rfl hk160) rfl rfl rfl ?_
              refine d_load rfl rfl rfl (s_own (.tail _ (.tail _ (.tail _ (.tail _ (.head _))))) (map_get (by rw [undL_len]; omega))) rfl rfl ?_
              refine d_x rfl (x_val call_19 rfl (fun w hw => rshade_fn cb _ hcb ((undL_byts hub).get k) w)) rfl rfl (by intro _ _ _ hK x hx; obtain ⟨rfl, rfl⟩ := hK; repeat (first | exact hx | refine List.mem_append_right _ ?_ | refine .tail _ ?_)) ?_
              rintro _ _ ⟨rfl, rfl⟩
              refine d_sure false rfl rfl rfl rfl (by simp) ?_
              refine d_light rfl rfl rfl rfl rfl ?_
              refine d_light rfl rfl rfl rfl rfl ?_
              refine d_light rfl (idx_array0 k rfl rfl rfl rfl hk160) rfl rfl rfl ?_
              refine d_load rfl rfl rfl (s_own (.head _) (shds_get (by omega))) rfl rfl ?_
              refine d_light rfl rfl rfl rfl rfl ?_
              refine d_light rfl (idx_array0 k rfl rfl rfl rfl hk160) rfl rfl rfl ?_
              refine d_load rfl rfl rfl (s_own (.tail _ (.head _)) (shds_get (by omega))) rfl rfl ?_
              refine d_sure false rfl rfl rfl rfl (by simp) ?_
              refine d_light rfl rfl rfl rfl rfl ?_
              refine d_pass rfl rfl rfl ?_
              refine d_pass rfl rfl rfl ?_
              refine d_light rfl rfl rfl rfl rfl ?_
              refine d_light rfl rfl rfl rfl rfl ?_
              refine d_nil ?_
              refine c_false rfl ?_
              refine c_skip ?_
              refine c_region ?_
              refine l_l rfl rfl rfl ?_
              refine l_l rfl rfl rfl ?_
              refine l_nil ?_
              exact ⟨k + 1, by omega, by omega, .cons (congrArg _ (succ_law (by omega))) .nil, (by repeat (first | exact Agree.refl _ _ | exact Agree.mix rfl | refine Agree.put rfl ?_ | refine Agree.keep rfl ?_)), fun _ h => h⟩
            · refine c_exit rfl ?_
              refine c_seq ?_
              refine c_region ?_
              refine l_l rfl rfl rfl ?_
              refine l_nil ?_
              refine c_ret ?_
              exact l_end0 (fun _ _ => rets_v rfl) ⟨rfl, rfl⟩

end Go.Proofs.Ytmdcapafaiemgaa
