/- The contract of the law of two sprites. -/
import Derived.Test.YtmdcapafaiemgaaLawsB
import Derived.Test.YtmdcapafaiemgaaTurn
import Derived.Test.YtmdcapafaiemgaaCalls
namespace Go.Proofs.Ytmdcapafaiemgaa
open Go Go.VV Go.Proofs
set_option maxRecDepth 100000 in
set_option maxHeartbeats 4000000 in
theorem spritesLeft_fn (w : World) (a : Option Addr) (cap : Nat) (b : List Int) (hb : Byts b) (hB : Ns w .u8 a b) (c cb cf cs : Int) (hc : 0 ≤ c ∧ c < 256) (hcb : 0 ≤ cb ∧ cb < 256) (hcf : 0 ≤ cf ∧ cf < 256) (hcs : 0 ≤ cs ∧ cs < 256) (x1 x2 t1 t2 g1 g2 line : Int) (hx1 : 0 ≤ x1 ∧ x1 < 256) (hx2 : 0 ≤ x2 ∧ x2 < 256) (ht1 : 0 ≤ t1 ∧ t1 < 256) (ht2 : 0 ≤ t2 ∧ t2 < 256) (hh1 : 0 ≤ g1 ∧ g1 < 256) (hh2 : 0 ≤ g2 ∧ g2 < 256) (hli : 0 ≤ line ∧ line < 256) :
    Does Try.prog 8 [.slice a b.length cap, .agg #[.int .u8 c, .int .u8 cb, .int .u8 cf, .int .u8 cs], .int .u8 x1, .int .u8 x2, .int .u8 t1, .int .u8 t2, .int .u8 g1, .int .u8 g2, .int .u8 line] w [] (fun v H => H = [] ∧ v = .bool true) := by
  refine does_of Try.func8 rfl rfl rfl (St.refl w) ?_
  refine c_seq ?_
  refine c_region ?_
  refine l_x (x_box rfl rfl) rfl rfl ?_
  rintro _ _ ⟨b10, rfl, rfl⟩
  refine l_l rfl rfl rfl ?_
  refine l_nil ?_
  refine c_seq ?_
  refine c_seq ?_
  refine c_region ?_
  refine l_x (x_val call_9 rfl (fun w hw => awake_fn w)) rfl rfl ?_
  rintro _ _ ⟨rfl, rfl⟩
  refine l_l rfl rfl rfl ?_
  refine l_l rfl rfl rfl ?_
  refine l_l rfl rfl rfl ?_
  refine l_l (by first | exact light_len rfl rfl | exact light_lens rfl rfl | rfl) rfl rfl ?_
  refine l_l rfl rfl rfl ?_
  refine l_l rfl rfl rfl ?_
  refine l_nil ?_
  refine c_cond rfl (fun h1 => ?_) (fun h1 => ?_)
  · refine c_seq ?_
    refine c_region ?_
    refine l_x (x_val call_9 rfl (fun w hw => awake_fn w)) rfl rfl ?_
    rintro _ _ ⟨rfl, rfl⟩
    refine l_l rfl rfl rfl ?_
    refine l_nil ?_
    refine c_ret ?_
    exact l_end0 (fun _ _ => rets_v rfl) ⟨rfl, rfl⟩
  · refine c_skip ?_
    refine c_seq ?_
    refine c_region ?_
    refine l_l rfl rfl rfl ?_
    refine l_x (x_call call_10 rfl (fun w hw => filled_fn _ _ b (by simp at *; omega) w (hB.later0 hw))) rfl rfl ?_
    rintro _ _ ⟨G43, ⟨a43, c43, rfl, hc43, hL43⟩, rfl⟩
    refine l_l rfl rfl rfl ?_
    refine l_nil ?_
    refine c_seq ?_
    refine c_region ?_
    refine l_x (x_loadA rfl rfl rfl (row_own (by repeat (first | exact .head _ | refine .tail _ ?_ | refine List.mem_append_right _ ?_)))) rfl rfl ?_
    rintro _ _ ⟨rfl, rfl⟩
    refine l_x (x_alloc rfl) rfl rfl ?_
    rintro _ _ ⟨b20, rfl, rfl⟩
    refine l_x (by first | exact x_store 0 rfl rfl rfl rfl rfl rfl (by first | rfl | exact Nat.le_of_ble_eq_true rfl | (simp; done)) | exact x_store 1 rfl rfl rfl rfl rfl rfl (by first | rfl | exact Nat.le_of_ble_eq_true rfl | (simp; done)) | exact x_store 2 rfl rfl rfl rfl rfl rfl (by first | rfl | exact Nat.le_of_ble_eq_true rfl | (simp; done)) | exact x_store 3 rfl rfl rfl rfl rfl rfl (by first | rfl | exact Nat.le_of_ble_eq_true rfl | (simp; done))) rfl rfl ?_
    rintro _ _ ⟨rfl, rfl⟩
    refine l_nil ?_
    refine c_seq ?_
    refine c_region ?_
    refine l_l (light_fa rfl rfl) rfl rfl ?_
    refine l_x (x_load rfl rfl (at_own (by repeat (first | exact .head _ | refine .tail _ ?_ | refine List.mem_append_right _ ?_)) (by rfl))) rfl rfl ?_
    rintro _ _ ⟨rfl, rfl⟩
    refine l_l rfl rfl rfl ?_
    refine l_l (light_fa rfl rfl) rfl rfl ?_
    refine l_x (by first | exact x_store 0 rfl rfl rfl rfl rfl rfl (by first | rfl | exact Nat.le_of_ble_eq_true rfl | (simp; done)) | exact x_store 1 rfl rfl rfl rfl rfl rfl (by first | rfl | exact Nat.le_of_ble_eq_true rfl | (simp; done)) | exact x_store 2 rfl rfl rfl rfl rfl rfl (by first | rfl | exact Nat.le_of_ble_eq_true rfl | (simp; done)) | exact x_store 3 rfl rfl rfl rfl rfl rfl (by first | rfl | exact Nat.le_of_ble_eq_true rfl | (simp; done))) rfl rfl ?_
    rintro _ _ ⟨rfl, rfl⟩
    refine l_nil ?_
    refine c_seq ?_
    refine c_region ?_
    refine l_l rfl rfl rfl ?_
    refine l_as (v := (.int .i64 line)) rfl rfl rfl (congrArg _ (wrap_i64 (by omega) (by omega))) ?_
    refine l_as (v := (.int .i64 (line % 8))) (rem_pos rfl rfl (by decide)) rfl rfl (congrArg _ (Int.tmod_eq_emod_of_nonneg hli.1)) ?_
    refine l_l rfl rfl rfl ?_
    refine l_nil ?_
    refine c_seq ?_
    have hl8 : 0 ≤ line % 8 ∧ line % 8 < 8 := by omega
    have hb1 : Byts [16, x1, t1, band .u8 g1 127] := (byts4 (by omega) hx1 ht1 (band127 hh1))
    have hb2 : Byts [16, x2, t2, band .u8 g2 127] := (byts4 (by omega) hx2 ht2 (band127 hh2))
    have hb8 : Byts [16, x1, t1, band .u8 g1 127, 16, x2, t2, band .u8 g2 127] := by
      intro z hz
      rcases List.mem_append.1 (show z ∈ [16, x1, t1, band .u8 g1 127] ++ [16, x2, t2, band .u8 g2 127] from hz) with h | h
      · exact hb1 z h
      · exact hb2 z h
    refine c_region ?_
    refine l_l rfl rfl rfl ?_
    refine l_l rfl rfl rfl ?_
    refine l_l rfl rfl rfl ?_
    refine l_l rfl rfl rfl ?_
    refine l_x (x_slc rfl rfl rfl rfl rfl rfl) rfl rfl ?_
    rintro _ _ ⟨b56, rfl, rfl⟩
    refine l_l rfl rfl rfl ?_
    refine l_l rfl rfl rfl ?_
    refine l_l rfl rfl rfl ?_
    refine l_l rfl rfl rfl ?_
    refine l_x (x_slc rfl rfl rfl rfl rfl rfl) rfl rfl ?_
    rintro _ _ ⟨b61, rfl, rfl⟩
    refine l_l rfl rfl rfl ?_
    refine l_l rfl rfl rfl ?_
    refine l_nil ?_
    refine c_seq ?_
    refine c_region ?_
    refine l_x (x_slc0 (el := 5) (n := 1) rfl) rfl rfl ?_
    rintro _ _ ⟨b62, rfl, rfl⟩
    refine l_l rfl rfl rfl ?_
    refine l_x (x_append (A := []) (G := [(b62, blk [] 5)]) (R := _) (v := .slice (some ⟨b62, 0, none⟩) 0 0) (n := 0) (xs := []) (m := 4) (by_ := 1) rfl rfl rfl rfl (.row b62 0 0 [] [] rfl rfl (by decide) (Nat.le_refl 0)) (fun w hw => .row _ _ _ _ _ rfl (row_own (by repeat (first | exact .head _ | refine .tail _ ?_ | refine List.mem_append_right _ ?_)) w hw)) rfl (by omega) (by omega)) rfl rfl ?_
    rintro v64 _ ⟨G64, hV64, hnil64, rfl⟩
    obtain ⟨a64, c64, rfl⟩ := hV64.slice
    refine l_l rfl rfl rfl ?_
    refine l_x (x_append (A := []) (G := G64) (R := _) (v := .slice a64 (0 + 4) c64) (m := 4) (by_ := 1) rfl rfl rfl rfl hV64 (fun w hw => .row _ _ _ _ _ rfl (row_own (by repeat (first | exact .head _ | refine .tail _ ?_ | refine List.mem_append_right _ ?_)) w hw)) rfl (by omega) (by omega)) rfl rfl ?_
    rintro v66 _ ⟨G66, hV66, hnil66, rfl⟩
    obtain ⟨a66, c66, rfl, hc66, hL66⟩ := Lst.of_vec (l := [16, x1, t1, band .u8 g1 127, 16, x2, t2, band .u8 g2 127]) hV66
    refine l_l rfl rfl rfl ?_
    refine l_nil ?_
    refine c_seq ?_
    refine c_region ?_
    refine l_x (x_loadA rfl rfl rfl (row_own (by repeat (first | exact .head _ | refine .tail _ ?_ | refine List.mem_append_right _ ?_)))) rfl rfl ?_
    rintro _ _ ⟨rfl, rfl⟩
    refine l_l rfl rfl rfl ?_
    refine l_l rfl rfl rfl ?_
    refine l_l rfl rfl rfl ?_
    refine l_l (light_array (l := (List.replicate 160 (0 : Int)).map (.int .u8)) (z := List.replicate 160 (.int .u8 0)) (ps := []) (n := 160) (el := 5) (s := 1) (by kernel_rfl) (by kernel_rfl) (by kernel_rfl) (by kernel_rfl)) rfl rfl ?_
    refine l_x (x_val call_17 rfl (fun w hw => line_fn (bor .u8 c 2) cb cf cs (bor2 hc).1 hcb hcf hcs _ _ _ _ (filled b) [16, x1, t1, band .u8 g1 127, 16, x2, t2, band .u8 g2 127] (filled_byts hb) hb8 (by simpa using hc66) (line % 8) (List.replicate 160 0) (by simp) zeros_byts w (hL43.ns hw (by intro x hx; simp [hx])) (hL66.ns hw (by intro x hx; simp [hx])))) rfl rfl ?_
    rintro _ _ ⟨rfl, rfl⟩
    refine l_x (x_alloc (l := List.replicate 160 (.int .u8 0)) (by kernel_rfl)) rfl rfl ?_
    rintro _ _ ⟨b25, rfl, rfl⟩
    refine l_x (by first | exact (x_store (vs := lineL (filled b) [16, x1, t1, band .u8 g1 127, 16, x2, t2, band .u8 g2 127] (bor .u8 c 2) cb cf cs (line % 8) (List.replicate 160 0)) (l := List.replicate 160 (.int .u8 0)) 0 rfl rfl rfl (by rw [lineL_len]; rfl) (lineL_ones _ _ _ _ _ _ _ _) rfl (by rw [lineL_len]; simp)) | exact (x_store (vs := lineL (filled b) [16, x1, t1, band .u8 g1 127, 16, x2, t2, band .u8 g2 127] (bor .u8 c 2) cb cf cs (line % 8) (List.replicate 160 0)) (l := List.replicate 160 (.int .u8 0)) 1 rfl rfl rfl (by rw [lineL_len]; rfl) (lineL_ones _ _ _ _ _ _ _ _) rfl (by rw [lineL_len]; simp))) rfl rfl ?_
    rintro _ _ ⟨rfl, rfl⟩
    rw [List.set_cons_zero]
    rw [putL_all (l := List.replicate 160 (.int .u8 0)) (vs := lineL (filled b) [16, x1, t1, band .u8 g1 127, 16, x2, t2, band .u8 g2 127] (bor .u8 c 2) cb cf cs (line % 8) (List.replicate 160 0)) (by rw [lineL_len]; simp)]
    refine l_nil ?_
    refine c_cut (σ := Nat × Nat) [26, 27, 73, 74, 75, 76, 77, 78, 79, 80, 81, 82, 83, 84] (fun s => [(26, .pointer (some ⟨s.1, 0, none⟩)), (27, .pointer (some ⟨s.2, 0, none⟩))]) (fun s => (s.2, blk (lineL (filled b) [16, x2, t2, band .u8 g2 127] (bor .u8 c 2) cb cf cs (line % 8) (List.replicate 160 0)) 36) :: (s.1, blk (lineL (filled b) [16, x1, t1, band .u8 g1 127] (bor .u8 c 2) cb cf cs (line % 8) (List.replicate 160 0)) 36) :: (b25, blk (lineL (filled b) [16, x1, t1, band .u8 g1 127, 16, x2, t2, band .u8 g2 127] (bor .u8 c 2) cb cf cs (line % 8) (List.replicate 160 0)) 36) :: (G66 ++ ((b61, blk [.int .u8 16, .int .u8 x2, .int .u8 t2, .int .u8 (band .u8 g2 127)] 5) :: (b56, blk [.int .u8 16, .int .u8 x1, .int .u8 t1, .int .u8 (band .u8 g1 127)] 5) :: (b20, blk [.int .u8 (bor .u8 c 2), .int .u8 cb, .int .u8 cf, .int .u8 cs] 27) :: (G43 ++ [(b10, blk [.int .u8 c, .int .u8 cb, .int .u8 cf, .int .u8 cs] 24)])))) (fun _ => True) ?_ ?_
    · try simp only [List.set_cons_zero, List.set_cons_succ]
      refine c_draw _ [1, 2, 3, 4, 5, 6, 7, 8, 9, 10, 12, 13] (.step true 0 (.step true 1 (.step true 2 (.step true 3 (.step true 4 (.step true 6 (.step true 7 (.step true 8 (.step true 9 (.step true 10 (.fork 5 (.fork 11 (.fork 12 (.step false 13 (.step false 14 (.step false 15 .done))) (.fork 13 (.step false 12 (.step false 14 (.step false 15 .done))) .stop)) (.fork 12 (.fork 11 (.step false 13 (.step false 14 (.step false 15 .done))) (.fork 13 (.step false 11 (.step false 14 (.step false 15 .done))) .stop)) (.fork 13 (.fork 11 (.step false 12 (.step false 14 (.step false 15 .done))) (.fork 12 (.step false 11 (.step false 14 (.step false 15 .done))) .stop)) .stop))) (.fork 12 (.fork 5 (.fork 11 (.step false 13 (.step false 14 (.step false 15 .done))) (.fork 13 (.step false 11 (.step false 14 (.step false 15 .done))) .stop)) (.fork 13 (.step false 5 (.step false 11 (.step false 14 (.step false 15 .done)))) .stop)) (.fork 13 (.fork 5 (.fork 11 (.step false 12 (.step false 14 (.step false 15 .done))) (.fork 12 (.step false 11 (.step false 14 (.step false 15 .done))) .stop)) (.fork 12 (.step false 5 (.step false 11 (.step false 14 (.step false 15 .done)))) .stop)) .stop))))))))))))) rfl (by kernel_rfl) (by kernel_rfl) (fun _ h => h) ?_
      refine d_loadA rfl rfl rfl rfl (srow_own (by repeat (first | exact .head _ | refine .tail _ ?_ | refine List.mem_append_right _ ?_))) rfl rfl ?_
      refine d_light rfl rfl rfl rfl rfl ?_
      refine d_light rfl rfl rfl rfl rfl ?_
      refine d_light rfl rfl rfl rfl rfl ?_
      refine d_light rfl (light_array (l := (List.replicate 160 (0 : Int)).map (.int .u8)) (z := List.replicate 160 (.int .u8 0)) (ps := []) (n := 160) (el := 5) (s := 1) (by kernel_rfl) (by kernel_rfl) (by kernel_rfl) (by kernel_rfl)) rfl rfl rfl ?_
      refine d_loadA rfl rfl rfl rfl (srow_own (by repeat (first | exact .head _ | refine .tail _ ?_ | refine List.mem_append_right _ ?_))) rfl rfl ?_
      refine d_light rfl rfl rfl rfl rfl ?_
      refine d_light rfl rfl rfl rfl rfl ?_
      refine d_light rfl rfl rfl rfl rfl ?_
      refine d_light rfl (light_array (l := (List.replicate 160 (0 : Int)).map (.int .u8)) (z := List.replicate 160 (.int .u8 0)) (ps := []) (n := 160) (el := 5) (s := 1) (by kernel_rfl) (by kernel_rfl) (by kernel_rfl) (by kernel_rfl)) rfl rfl rfl ?_
      refine d_fork ?_ ?_
      · refine d_x rfl (x_val call_17 rfl (fun w hw => line_fn (bor .u8 c 2) cb cf cs (bor2 hc).1 hcb hcf hcs _ _ _ _ (filled b) [16, x1, t1, band .u8 g1 127] (filled_byts hb) hb1 (Nat.le_refl _) (line % 8) (List.replicate 160 0) (by simp) zeros_byts w (hL43.ns hw (by intro x hx; simp [hx])) (Ns.of (row_own (by repeat (first | exact .head _ | refine .tail _ ?_ | refine List.mem_append_right _ ?_)) w hw)))) rfl rfl (by intro _ _ _ hK x hx; obtain ⟨rfl, rfl⟩ := hK; repeat (first | exact hx | refine List.mem_append_right _ ?_ | refine .tail _ ?_)) ?_
        rintro _ _ ⟨rfl, rfl⟩
        refine d_fork ?_ ?_
        · refine d_x rfl (x_val call_17 rfl (fun w hw => line_fn (bor .u8 c 2) cb cf cs (bor2 hc).1 hcb hcf hcs _ _ _ _ (filled b) [16, x2, t2, band .u8 g2 127] (filled_byts hb) hb2 (Nat.le_refl _) (line % 8) (List.replicate 160 0) (by simp) zeros_byts w (hL43.ns hw (by intro x hx; simp [hx])) (Ns.of (row_own (by repeat (first | exact .head _ | refine .tail _ ?_ | refine List.mem_append_right _ ?_)) w hw)))) rfl rfl (by intro h; cases h) ?_
          rintro _ _ ⟨rfl, rfl⟩
          refine d_fork ?_ ?_
          · refine d_x rfl (x_alloc (l := List.replicate 160 (.int .u8 0)) (by kernel_rfl)) rfl rfl (by intro _ _ _ hK x hx; obtain ⟨_, rfl, rfl⟩ := hK; repeat (first | exact hx | refine List.mem_append_right _ ?_ | refine .tail _ ?_)) ?_
            rintro _ _ ⟨b26, rfl, rfl⟩
            refine d_x rfl (x_alloc (l := List.replicate 160 (.int .u8 0)) (by kernel_rfl)) rfl rfl (by intro _ _ _ hK x hx; obtain ⟨_, rfl, rfl⟩ := hK; repeat (first | exact hx | refine List.mem_append_right _ ?_ | refine .tail _ ?_)) ?_
            rintro _ _ ⟨b27, rfl, rfl⟩
            refine d_x rfl (by first | exact (x_store (vs := lineL (filled b) [16, x1, t1, band .u8 g1 127] (bor .u8 c 2) cb cf cs (line % 8) (List.replicate 160 0)) (l := List.replicate 160 (.int .u8 0)) 0 rfl rfl rfl (by rw [lineL_len]; rfl) (lineL_ones _ _ _ _ _ _ _ _) rfl (by rw [lineL_len]; simp)) | exact (x_store (vs := lineL (filled b) [16, x1, t1, band .u8 g1 127] (bor .u8 c 2) cb cf cs (line % 8) (List.replicate 160 0)) (l := List.replicate 160 (.int .u8 0)) 1 rfl rfl rfl (by rw [lineL_len]; rfl) (lineL_ones _ _ _ _ _ _ _ _) rfl (by rw [lineL_len]; simp))) rfl rfl (by intro h; cases h) ?_
            rintro _ _ ⟨rfl, rfl⟩
            rw [putL_all (l := List.replicate 160 (.int .u8 0)) (vs := lineL (filled b) [16, x1, t1, band .u8 g1 127] (bor .u8 c 2) cb cf cs (line % 8) (List.replicate 160 0)) (by rw [lineL_len]; simp)]
            refine d_x rfl (by first | exact (x_store (vs := lineL (filled b) [16, x2, t2, band .u8 g2 127] (bor .u8 c 2) cb cf cs (line % 8) (List.replicate 160 0)) (l := List.replicate 160 (.int .u8 0)) 0 rfl rfl rfl (by rw [lineL_len]; rfl) (lineL_ones _ _ _ _ _ _ _ _) rfl (by rw [lineL_len]; simp)) | exact (x_store (vs := lineL (filled b) [16, x2, t2, band .u8 g2 127] (bor .u8 c 2) cb cf cs (line % 8) (List.replicate 160 0)) (l := List.replicate 160 (.int .u8 0)) 1 rfl rfl rfl (by rw [lineL_len]; rfl) (lineL_ones _ _ _ _ _ _ _ _) rfl (by rw [lineL_len]; simp))) rfl rfl (by intro h; cases h) ?_
            rintro _ _ ⟨rfl, rfl⟩
            rw [putL_all (l := List.replicate 160 (.int .u8 0)) (vs := lineL (filled b) [16, x2, t2, band .u8 g2 127] (bor .u8 c 2) cb cf cs (line % 8) (List.replicate 160 0)) (by rw [lineL_len]; simp)]
            refine d_nil ?_
            exact ⟨(b26, b27), trivial, .cons rfl (.cons rfl .nil), (by repeat (first | exact Agree.refl _ _ | exact Agree.mix rfl | refine Agree.put rfl ?_ | refine Agree.keep rfl ?_)), fun w h => h⟩
          refine d_fork ?_ ?_
          · refine d_x rfl (x_alloc (l := List.replicate 160 (.int .u8 0)) (by kernel_rfl)) rfl rfl (by intro _ _ _ hK x hx; obtain ⟨_, rfl, rfl⟩ := hK; repeat (first | exact hx | refine List.mem_append_right _ ?_ | refine .tail _ ?_)) ?_
            rintro _ _ ⟨b27, rfl, rfl⟩
            refine d_x rfl (x_alloc (l := List.replicate 160 (.int .u8 0)) (by kernel_rfl)) rfl rfl (by intro _ _ _ hK x hx; obtain ⟨_, rfl, rfl⟩ := hK; repeat (first | exact hx | refine List.mem_append_right _ ?_ | refine .tail _ ?_)) ?_
            rintro _ _ ⟨b26, rfl, rfl⟩
            refine d_x rfl (by first | exact (x_store (vs := lineL (filled b) [16, x1, t1, band .u8 g1 127] (bor .u8 c 2) cb cf cs (line % 8) (List.replicate 160 0)) (l := List.replicate 160 (.int .u8 0)) 0 rfl rfl rfl (by rw [lineL_len]; rfl) (lineL_ones _ _ _ _ _ _ _ _) rfl (by rw [lineL_len]; simp)) | exact (x_store (vs := lineL (filled b) [16, x1, t1, band .u8 g1 127] (bor .u8 c 2) cb cf cs (line % 8) (List.replicate 160 0)) (l := List.replicate 160 (.int .u8 0)) 1 rfl rfl rfl (by rw [lineL_len]; rfl) (lineL_ones _ _ _ _ _ _ _ _) rfl (by rw [lineL_len]; simp))) rfl rfl (by intro h; cases h) ?_
            rintro _ _ ⟨rfl, rfl⟩
            rw [putL_all (l := List.replicate 160 (.int .u8 0)) (vs := lineL (filled b) [16, x1, t1, band .u8 g1 127] (bor .u8 c 2) cb cf cs (line % 8) (List.replicate 160 0)) (by rw [lineL_len]; simp)]
            refine d_x rfl (by first | exact (x_store (vs := lineL (filled b) [16, x2, t2, band .u8 g2 127] (bor .u8 c 2) cb cf cs (line % 8) (List.replicate 160 0)) (l := List.replicate 160 (.int .u8 0)) 0 rfl rfl rfl (by rw [lineL_len]; rfl) (lineL_ones _ _ _ _ _ _ _ _) rfl (by rw [lineL_len]; simp)) | exact (x_store (vs := lineL (filled b) [16, x2, t2, band .u8 g2 127] (bor .u8 c 2) cb cf cs (line % 8) (List.replicate 160 0)) (l := List.replicate 160 (.int .u8 0)) 1 rfl rfl rfl (by rw [lineL_len]; rfl) (lineL_ones _ _ _ _ _ _ _ _) rfl (by rw [lineL_len]; simp))) rfl rfl (by intro h; cases h) ?_
            rintro _ _ ⟨rfl, rfl⟩
            rw [putL_all (l := List.replicate 160 (.int .u8 0)) (vs := lineL (filled b) [16, x2, t2, band .u8 g2 127] (bor .u8 c 2) cb cf cs (line % 8) (List.replicate 160 0)) (by rw [lineL_len]; simp)]
            refine d_nil ?_
            exact ⟨(b26, b27), trivial, .cons rfl (.cons rfl .nil), (by repeat (first | exact Agree.refl _ _ | exact Agree.mix rfl | refine Agree.put rfl ?_ | refine Agree.keep rfl ?_)), fun w h => h.perm (List.Perm.swap _ _ _)⟩
          exact d_stop
        refine d_fork ?_ ?_
        · refine d_x rfl (x_alloc (l := List.replicate 160 (.int .u8 0)) (by kernel_rfl)) rfl rfl (by intro _ _ _ hK x hx; obtain ⟨_, rfl, rfl⟩ := hK; repeat (first | exact hx | refine List.mem_append_right _ ?_ | refine .tail _ ?_)) ?_
          rintro _ _ ⟨b26, rfl, rfl⟩
          refine d_fork ?_ ?_
          · refine d_x rfl (x_val call_17 rfl (fun w hw => line_fn (bor .u8 c 2) cb cf cs (bor2 hc).1 hcb hcf hcs _ _ _ _ (filled b) [16, x2, t2, band .u8 g2 127] (filled_byts hb) hb2 (Nat.le_refl _) (line % 8) (List.replicate 160 0) (by simp) zeros_byts w (hL43.ns hw (by intro x hx; simp [hx])) (Ns.of (row_own (by repeat (first | exact .head _ | refine .tail _ ?_ | refine List.mem_append_right _ ?_)) w hw)))) rfl rfl (by intro h; cases h) ?_
            rintro _ _ ⟨rfl, rfl⟩
            refine d_x rfl (x_alloc (l := List.replicate 160 (.int .u8 0)) (by kernel_rfl)) rfl rfl (by intro _ _ _ hK x hx; obtain ⟨_, rfl, rfl⟩ := hK; repeat (first | exact hx | refine List.mem_append_right _ ?_ | refine .tail _ ?_)) ?_
            rintro _ _ ⟨b27, rfl, rfl⟩
            refine d_x rfl (by first | exact (x_store (vs := lineL (filled b) [16, x1, t1, band .u8 g1 127] (bor .u8 c 2) cb cf cs (line % 8) (List.replicate 160 0)) (l := List.replicate 160 (.int .u8 0)) 0 rfl rfl rfl (by rw [lineL_len]; rfl) (lineL_ones _ _ _ _ _ _ _ _) rfl (by rw [lineL_len]; simp)) | exact (x_store (vs := lineL (filled b) [16, x1, t1, band .u8 g1 127] (bor .u8 c 2) cb cf cs (line % 8) (List.replicate 160 0)) (l := List.replicate 160 (.int .u8 0)) 1 rfl rfl rfl (by rw [lineL_len]; rfl) (lineL_ones _ _ _ _ _ _ _ _) rfl (by rw [lineL_len]; simp))) rfl rfl (by intro h; cases h) ?_
            rintro _ _ ⟨rfl, rfl⟩
            rw [putL_all (l := List.replicate 160 (.int .u8 0)) (vs := lineL (filled b) [16, x1, t1, band .u8 g1 127] (bor .u8 c 2) cb cf cs (line % 8) (List.replicate 160 0)) (by rw [lineL_len]; simp)]
            refine d_x rfl (by first | exact (x_store (vs := lineL (filled b) [16, x2, t2, band .u8 g2 127] (bor .u8 c 2) cb cf cs (line % 8) (List.replicate 160 0)) (l := List.replicate 160 (.int .u8 0)) 0 rfl rfl rfl (by rw [lineL_len]; rfl) (lineL_ones _ _ _ _ _ _ _ _) rfl (by rw [lineL_len]; simp)) | exact (x_store (vs := lineL (filled b) [16, x2, t2, band .u8 g2 127] (bor .u8 c 2) cb cf cs (line % 8) (List.replicate 160 0)) (l := List.replicate 160 (.int .u8 0)) 1 rfl rfl rfl (by rw [lineL_len]; rfl) (lineL_ones _ _ _ _ _ _ _ _) rfl (by rw [lineL_len]; simp))) rfl rfl (by intro h; cases h) ?_
            rintro _ _ ⟨rfl, rfl⟩
            rw [putL_all (l := List.replicate 160 (.int .u8 0)) (vs := lineL (filled b) [16, x2, t2, band .u8 g2 127] (bor .u8 c 2) cb cf cs (line % 8) (List.replicate 160 0)) (by rw [lineL_len]; simp)]
            refine d_nil ?_
            exact ⟨(b26, b27), trivial, .cons rfl (.cons rfl .nil), (by repeat (first | exact Agree.refl _ _ | exact Agree.mix rfl | refine Agree.put rfl ?_ | refine Agree.keep rfl ?_)), fun w h => h⟩
          refine d_fork ?_ ?_
          · refine d_x rfl (x_alloc (l := List.replicate 160 (.int .u8 0)) (by kernel_rfl)) rfl rfl (by intro _ _ _ hK x hx; obtain ⟨_, rfl, rfl⟩ := hK; repeat (first | exact hx | refine List.mem_append_right _ ?_ | refine .tail _ ?_)) ?_
            rintro _ _ ⟨b27, rfl, rfl⟩
            refine d_x rfl (x_val call_17 rfl (fun w hw => line_fn (bor .u8 c 2) cb cf cs (bor2 hc).1 hcb hcf hcs _ _ _ _ (filled b) [16, x2, t2, band .u8 g2 127] (filled_byts hb) hb2 (Nat.le_refl _) (line % 8) (List.replicate 160 0) (by simp) zeros_byts w (hL43.ns hw (by intro x hx; simp [hx])) (Ns.of (row_own (by repeat (first | exact .head _ | refine .tail _ ?_ | refine List.mem_append_right _ ?_)) w hw)))) rfl rfl (by intro h; cases h) ?_
            rintro _ _ ⟨rfl, rfl⟩
            refine d_x rfl (by first | exact (x_store (vs := lineL (filled b) [16, x1, t1, band .u8 g1 127] (bor .u8 c 2) cb cf cs (line % 8) (List.replicate 160 0)) (l := List.replicate 160 (.int .u8 0)) 0 rfl rfl rfl (by rw [lineL_len]; rfl) (lineL_ones _ _ _ _ _ _ _ _) rfl (by rw [lineL_len]; simp)) | exact (x_store (vs := lineL (filled b) [16, x1, t1, band .u8 g1 127] (bor .u8 c 2) cb cf cs (line % 8) (List.replicate 160 0)) (l := List.replicate 160 (.int .u8 0)) 1 rfl rfl rfl (by rw [lineL_len]; rfl) (lineL_ones _ _ _ _ _ _ _ _) rfl (by rw [lineL_len]; simp))) rfl rfl (by intro h; cases h) ?_
            rintro _ _ ⟨rfl, rfl⟩
            rw [putL_all (l := List.replicate 160 (.int .u8 0)) (vs := lineL (filled b) [16, x1, t1, band .u8 g1 127] (bor .u8 c 2) cb cf cs (line % 8) (List.replicate 160 0)) (by rw [lineL_len]; simp)]
            refine d_x rfl (by first | exact (x_store (vs := lineL (filled b) [16, x2, t2, band .u8 g2 127] (bor .u8 c 2) cb cf cs (line % 8) (List.replicate 160 0)) (l := List.replicate 160 (.int .u8 0)) 0 rfl rfl rfl (by rw [lineL_len]; rfl) (lineL_ones _ _ _ _ _ _ _ _) rfl (by rw [lineL_len]; simp)) | exact (x_store (vs := lineL (filled b) [16, x2, t2, band .u8 g2 127] (bor .u8 c 2) cb cf cs (line % 8) (List.replicate 160 0)) (l := List.replicate 160 (.int .u8 0)) 1 rfl rfl rfl (by rw [lineL_len]; rfl) (lineL_ones _ _ _ _ _ _ _ _) rfl (by rw [lineL_len]; simp))) rfl rfl (by intro h; cases h) ?_
            rintro _ _ ⟨rfl, rfl⟩
            rw [putL_all (l := List.replicate 160 (.int .u8 0)) (vs := lineL (filled b) [16, x2, t2, band .u8 g2 127] (bor .u8 c 2) cb cf cs (line % 8) (List.replicate 160 0)) (by rw [lineL_len]; simp)]
            refine d_nil ?_
            exact ⟨(b26, b27), trivial, .cons rfl (.cons rfl .nil), (by repeat (first | exact Agree.refl _ _ | exact Agree.mix rfl | refine Agree.put rfl ?_ | refine Agree.keep rfl ?_)), fun w h => h⟩
          exact d_stop
        refine d_fork ?_ ?_
        · refine d_x rfl (x_alloc (l := List.replicate 160 (.int .u8 0)) (by kernel_rfl)) rfl rfl (by intro _ _ _ hK x hx; obtain ⟨_, rfl, rfl⟩ := hK; repeat (first | exact hx | refine List.mem_append_right _ ?_ | refine .tail _ ?_)) ?_
          rintro _ _ ⟨b27, rfl, rfl⟩
          refine d_fork ?_ ?_
          · refine d_x rfl (x_val call_17 rfl (fun w hw => line_fn (bor .u8 c 2) cb cf cs (bor2 hc).1 hcb hcf hcs _ _ _ _ (filled b) [16, x2, t2, band .u8 g2 127] (filled_byts hb) hb2 (Nat.le_refl _) (line % 8) (List.replicate 160 0) (by simp) zeros_byts w (hL43.ns hw (by intro x hx; simp [hx])) (Ns.of (row_own (by repeat (first | exact .head _ | refine .tail _ ?_ | refine List.mem_append_right _ ?_)) w hw)))) rfl rfl (by intro h; cases h) ?_
            rintro _ _ ⟨rfl, rfl⟩
            refine d_x rfl (x_alloc (l := List.replicate 160 (.int .u8 0)) (by kernel_rfl)) rfl rfl (by intro _ _ _ hK x hx; obtain ⟨_, rfl, rfl⟩ := hK; repeat (first | exact hx | refine List.mem_append_right _ ?_ | refine .tail _ ?_)) ?_
            rintro _ _ ⟨b26, rfl, rfl⟩
            refine d_x rfl (by first | exact (x_store (vs := lineL (filled b) [16, x1, t1, band .u8 g1 127] (bor .u8 c 2) cb cf cs (line % 8) (List.replicate 160 0)) (l := List.replicate 160 (.int .u8 0)) 0 rfl rfl rfl (by rw [lineL_len]; rfl) (lineL_ones _ _ _ _ _ _ _ _) rfl (by rw [lineL_len]; simp)) | exact (x_store (vs := lineL (filled b) [16, x1, t1, band .u8 g1 127] (bor .u8 c 2) cb cf cs (line % 8) (List.replicate 160 0)) (l := List.replicate 160 (.int .u8 0)) 1 rfl rfl rfl (by rw [lineL_len]; rfl) (lineL_ones _ _ _ _ _ _ _ _) rfl (by rw [lineL_len]; simp))) rfl rfl (by intro h; cases h) ?_
            rintro _ _ ⟨rfl, rfl⟩
            rw [putL_all (l := List.replicate 160 (.int .u8 0)) (vs := lineL (filled b) [16, x1, t1, band .u8 g1 127] (bor .u8 c 2) cb cf cs (line % 8) (List.replicate 160 0)) (by rw [lineL_len]; simp)]
            refine d_x rfl (by first | exact (x_store (vs := lineL (filled b) [16, x2, t2, band .u8 g2 127] (bor .u8 c 2) cb cf cs (line % 8) (List.replicate 160 0)) (l := List.replicate 160 (.int .u8 0)) 0 rfl rfl rfl (by rw [lineL_len]; rfl) (lineL_ones _ _ _ _ _ _ _ _) rfl (by rw [lineL_len]; simp)) | exact (x_store (vs := lineL (filled b) [16, x2, t2, band .u8 g2 127] (bor .u8 c 2) cb cf cs (line % 8) (List.replicate 160 0)) (l := List.replicate 160 (.int .u8 0)) 1 rfl rfl rfl (by rw [lineL_len]; rfl) (lineL_ones _ _ _ _ _ _ _ _) rfl (by rw [lineL_len]; simp))) rfl rfl (by intro h; cases h) ?_
            rintro _ _ ⟨rfl, rfl⟩
            rw [putL_all (l := List.replicate 160 (.int .u8 0)) (vs := lineL (filled b) [16, x2, t2, band .u8 g2 127] (bor .u8 c 2) cb cf cs (line % 8) (List.replicate 160 0)) (by rw [lineL_len]; simp)]
            refine d_nil ?_
            exact ⟨(b26, b27), trivial, .cons rfl (.cons rfl .nil), (by repeat (first | exact Agree.refl _ _ | exact Agree.mix rfl | refine Agree.put rfl ?_ | refine Agree.keep rfl ?_)), fun w h => h.perm (List.Perm.swap _ _ _)⟩
          refine d_fork ?_ ?_
          · refine d_x rfl (x_alloc (l := List.replicate 160 (.int .u8 0)) (by kernel_rfl)) rfl rfl (by intro _ _ _ hK x hx; obtain ⟨_, rfl, rfl⟩ := hK; repeat (first | exact hx | refine List.mem_append_right _ ?_ | refine .tail _ ?_)) ?_
            rintro _ _ ⟨b26, rfl, rfl⟩
            refine d_x rfl (x_val call_17 rfl (fun w hw => line_fn (bor .u8 c 2) cb cf cs (bor2 hc).1 hcb hcf hcs _ _ _ _ (filled b) [16, x2, t2, band .u8 g2 127] (filled_byts hb) hb2 (Nat.le_refl _) (line % 8) (List.replicate 160 0) (by simp) zeros_byts w (hL43.ns hw (by intro x hx; simp [hx])) (Ns.of (row_own (by repeat (first | exact .head _ | refine .tail _ ?_ | refine List.mem_append_right _ ?_)) w hw)))) rfl rfl (by intro h; cases h) ?_
            rintro _ _ ⟨rfl, rfl⟩
            refine d_x rfl (by first | exact (x_store (vs := lineL (filled b) [16, x1, t1, band .u8 g1 127] (bor .u8 c 2) cb cf cs (line % 8) (List.replicate 160 0)) (l := List.replicate 160 (.int .u8 0)) 0 rfl rfl rfl (by rw [lineL_len]; rfl) (lineL_ones _ _ _ _ _ _ _ _) rfl (by rw [lineL_len]; simp)) | exact (x_store (vs := lineL (filled b) [16, x1, t1, band .u8 g1 127] (bor .u8 c 2) cb cf cs (line % 8) (List.replicate 160 0)) (l := List.replicate 160 (.int .u8 0)) 1 rfl rfl rfl (by rw [lineL_len]; rfl) (lineL_ones _ _ _ _ _ _ _ _) rfl (by rw [lineL_len]; simp))) rfl rfl (by intro h; cases h) ?_
            rintro _ _ ⟨rfl, rfl⟩
            rw [putL_all (l := List.replicate 160 (.int .u8 0)) (vs := lineL (filled b) [16, x1, t1, band .u8 g1 127] (bor .u8 c 2) cb cf cs (line % 8) (List.replicate 160 0)) (by rw [lineL_len]; simp)]
            refine d_x rfl (by first | exact (x_store (vs := lineL (filled b) [16, x2, t2, band .u8 g2 127] (bor .u8 c 2) cb cf cs (line % 8) (List.replicate 160 0)) (l := List.replicate 160 (.int .u8 0)) 0 rfl rfl rfl (by rw [lineL_len]; rfl) (lineL_ones _ _ _ _ _ _ _ _) rfl (by rw [lineL_len]; simp)) | exact (x_store (vs := lineL (filled b) [16, x2, t2, band .u8 g2 127] (bor .u8 c 2) cb cf cs (line % 8) (List.replicate 160 0)) (l := List.replicate 160 (.int .u8 0)) 1 rfl rfl rfl (by rw [lineL_len]; rfl) (lineL_ones _ _ _ _ _ _ _ _) rfl (by rw [lineL_len]; simp))) rfl rfl (by intro h; cases h) ?_
            rintro _ _ ⟨rfl, rfl⟩
            rw [putL_all (l := List.replicate 160 (.int .u8 0)) (vs := lineL (filled b) [16, x2, t2, band .u8 g2 127] (bor .u8 c 2) cb cf cs (line % 8) (List.replicate 160 0)) (by rw [lineL_len]; simp)]
            refine d_nil ?_
            exact ⟨(b26, b27), trivial, .cons rfl (.cons rfl .nil), (by repeat (first | exact Agree.refl _ _ | exact Agree.mix rfl | refine Agree.put rfl ?_ | refine Agree.keep rfl ?_)), fun w h => h.perm (List.Perm.swap _ _ _)⟩
          exact d_stop
        exact d_stop
      refine d_fork ?_ ?_
      · refine d_x rfl (x_alloc (l := List.replicate 160 (.int .u8 0)) (by kernel_rfl)) rfl rfl (by intro _ _ _ hK x hx; obtain ⟨_, rfl, rfl⟩ := hK; repeat (first | exact hx | refine List.mem_append_right _ ?_ | refine .tail _ ?_)) ?_
        rintro _ _ ⟨b26, rfl, rfl⟩
        refine d_fork ?_ ?_
        · refine d_x rfl (x_val call_17 rfl (fun w hw => line_fn (bor .u8 c 2) cb cf cs (bor2 hc).1 hcb hcf hcs _ _ _ _ (filled b) [16, x1, t1, band .u8 g1 127] (filled_byts hb) hb1 (Nat.le_refl _) (line % 8) (List.replicate 160 0) (by simp) zeros_byts w (hL43.ns hw (by intro x hx; simp [hx])) (Ns.of (row_own (by repeat (first | exact .head _ | refine .tail _ ?_ | refine List.mem_append_right _ ?_)) w hw)))) rfl rfl (by intro _ _ _ hK x hx; obtain ⟨rfl, rfl⟩ := hK; repeat (first | exact hx | refine List.mem_append_right _ ?_ | refine .tail _ ?_)) ?_
          rintro _ _ ⟨rfl, rfl⟩
          refine d_fork ?_ ?_
          · refine d_x rfl (x_val call_17 rfl (fun w hw => line_fn (bor .u8 c 2) cb cf cs (bor2 hc).1 hcb hcf hcs _ _ _ _ (filled b) [16, x2, t2, band .u8 g2 127] (filled_byts hb) hb2 (Nat.le_refl _) (line % 8) (List.replicate 160 0) (by simp) zeros_byts w (hL43.ns hw (by intro x hx; simp [hx])) (Ns.of (row_own (by repeat (first | exact .head _ | refine .tail _ ?_ | refine List.mem_append_right _ ?_)) w hw)))) rfl rfl (by intro h; cases h) ?_
            rintro _ _ ⟨rfl, rfl⟩
            refine d_x rfl (x_alloc (l := List.replicate 160 (.int .u8 0)) (by kernel_rfl)) rfl rfl (by intro _ _ _ hK x hx; obtain ⟨_, rfl, rfl⟩ := hK; repeat (first | exact hx | refine List.mem_append_right _ ?_ | refine .tail _ ?_)) ?_
            rintro _ _ ⟨b27, rfl, rfl⟩
            refine d_x rfl (by first | exact (x_store (vs := lineL (filled b) [16, x1, t1, band .u8 g1 127] (bor .u8 c 2) cb cf cs (line % 8) (List.replicate 160 0)) (l := List.replicate 160 (.int .u8 0)) 0 rfl rfl rfl (by rw [lineL_len]; rfl) (lineL_ones _ _ _ _ _ _ _ _) rfl (by rw [lineL_len]; simp)) | exact (x_store (vs := lineL (filled b) [16, x1, t1, band .u8 g1 127] (bor .u8 c 2) cb cf cs (line % 8) (List.replicate 160 0)) (l := List.replicate 160 (.int .u8 0)) 1 rfl rfl rfl (by rw [lineL_len]; rfl) (lineL_ones _ _ _ _ _ _ _ _) rfl (by rw [lineL_len]; simp))) rfl rfl (by intro h; cases h) ?_
            rintro _ _ ⟨rfl, rfl⟩
            rw [putL_all (l := List.replicate 160 (.int .u8 0)) (vs := lineL (filled b) [16, x1, t1, band .u8 g1 127] (bor .u8 c 2) cb cf cs (line % 8) (List.replicate 160 0)) (by rw [lineL_len]; simp)]
            refine d_x rfl (by first | exact (x_store (vs := lineL (filled b) [16, x2, t2, band .u8 g2 127] (bor .u8 c 2) cb cf cs (line % 8) (List.replicate 160 0)) (l := List.replicate 160 (.int .u8 0)) 0 rfl rfl rfl (by rw [lineL_len]; rfl) (lineL_ones _ _ _ _ _ _ _ _) rfl (by rw [lineL_len]; simp)) | exact (x_store (vs := lineL (filled b) [16, x2, t2, band .u8 g2 127] (bor .u8 c 2) cb cf cs (line % 8) (List.replicate 160 0)) (l := List.replicate 160 (.int .u8 0)) 1 rfl rfl rfl (by rw [lineL_len]; rfl) (lineL_ones _ _ _ _ _ _ _ _) rfl (by rw [lineL_len]; simp))) rfl rfl (by intro h; cases h) ?_
            rintro _ _ ⟨rfl, rfl⟩
            rw [putL_all (l := List.replicate 160 (.int .u8 0)) (vs := lineL (filled b) [16, x2, t2, band .u8 g2 127] (bor .u8 c 2) cb cf cs (line % 8) (List.replicate 160 0)) (by rw [lineL_len]; simp)]
            refine d_nil ?_
            exact ⟨(b26, b27), trivial, .cons rfl (.cons rfl .nil), (by repeat (first | exact Agree.refl _ _ | exact Agree.mix rfl | refine Agree.put rfl ?_ | refine Agree.keep rfl ?_)), fun w h => h⟩
          refine d_fork ?_ ?_
          · refine d_x rfl (x_alloc (l := List.replicate 160 (.int .u8 0)) (by kernel_rfl)) rfl rfl (by intro _ _ _ hK x hx; obtain ⟨_, rfl, rfl⟩ := hK; repeat (first | exact hx | refine List.mem_append_right _ ?_ | refine .tail _ ?_)) ?_
            rintro _ _ ⟨b27, rfl, rfl⟩
            refine d_x rfl (x_val call_17 rfl (fun w hw => line_fn (bor .u8 c 2) cb cf cs (bor2 hc).1 hcb hcf hcs _ _ _ _ (filled b) [16, x2, t2, band .u8 g2 127] (filled_byts hb) hb2 (Nat.le_refl _) (line % 8) (List.replicate 160 0) (by simp) zeros_byts w (hL43.ns hw (by intro x hx; simp [hx])) (Ns.of (row_own (by repeat (first | exact .head _ | refine .tail _ ?_ | refine List.mem_append_right _ ?_)) w hw)))) rfl rfl (by intro h; cases h) ?_
            rintro _ _ ⟨rfl, rfl⟩
            refine d_x rfl (by first | exact (x_store (vs := lineL (filled b) [16, x1, t1, band .u8 g1 127] (bor .u8 c 2) cb cf cs (line % 8) (List.replicate 160 0)) (l := List.replicate 160 (.int .u8 0)) 0 rfl rfl rfl (by rw [lineL_len]; rfl) (lineL_ones _ _ _ _ _ _ _ _) rfl (by rw [lineL_len]; simp)) | exact (x_store (vs := lineL (filled b) [16, x1, t1, band .u8 g1 127] (bor .u8 c 2) cb cf cs (line % 8) (List.replicate 160 0)) (l := List.replicate 160 (.int .u8 0)) 1 rfl rfl rfl (by rw [lineL_len]; rfl) (lineL_ones _ _ _ _ _ _ _ _) rfl (by rw [lineL_len]; simp))) rfl rfl (by intro h; cases h) ?_
            rintro _ _ ⟨rfl, rfl⟩
            rw [putL_all (l := List.replicate 160 (.int .u8 0)) (vs := lineL (filled b) [16, x1, t1, band .u8 g1 127] (bor .u8 c 2) cb cf cs (line % 8) (List.replicate 160 0)) (by rw [lineL_len]; simp)]
            refine d_x rfl (by first | exact (x_store (vs := lineL (filled b) [16, x2, t2, band .u8 g2 127] (bor .u8 c 2) cb cf cs (line % 8) (List.replicate 160 0)) (l := List.replicate 160 (.int .u8 0)) 0 rfl rfl rfl (by rw [lineL_len]; rfl) (lineL_ones _ _ _ _ _ _ _ _) rfl (by rw [lineL_len]; simp)) | exact (x_store (vs := lineL (filled b) [16, x2, t2, band .u8 g2 127] (bor .u8 c 2) cb cf cs (line % 8) (List.replicate 160 0)) (l := List.replicate 160 (.int .u8 0)) 1 rfl rfl rfl (by rw [lineL_len]; rfl) (lineL_ones _ _ _ _ _ _ _ _) rfl (by rw [lineL_len]; simp))) rfl rfl (by intro h; cases h) ?_
            rintro _ _ ⟨rfl, rfl⟩
            rw [putL_all (l := List.replicate 160 (.int .u8 0)) (vs := lineL (filled b) [16, x2, t2, band .u8 g2 127] (bor .u8 c 2) cb cf cs (line % 8) (List.replicate 160 0)) (by rw [lineL_len]; simp)]
            refine d_nil ?_
            exact ⟨(b26, b27), trivial, .cons rfl (.cons rfl .nil), (by repeat (first | exact Agree.refl _ _ | exact Agree.mix rfl | refine Agree.put rfl ?_ | refine Agree.keep rfl ?_)), fun w h => h⟩
          exact d_stop
        refine d_fork ?_ ?_
        · refine d_x rfl (x_alloc (l := List.replicate 160 (.int .u8 0)) (by kernel_rfl)) rfl rfl (by intro _ _ _ hK x hx; obtain ⟨_, rfl, rfl⟩ := hK; repeat (first | exact hx | refine List.mem_append_right _ ?_ | refine .tail _ ?_)) ?_
          rintro _ _ ⟨b27, rfl, rfl⟩
          refine d_x rfl (x_val call_17 rfl (fun w hw => line_fn (bor .u8 c 2) cb cf cs (bor2 hc).1 hcb hcf hcs _ _ _ _ (filled b) [16, x1, t1, band .u8 g1 127] (filled_byts hb) hb1 (Nat.le_refl _) (line % 8) (List.replicate 160 0) (by simp) zeros_byts w (hL43.ns hw (by intro x hx; simp [hx])) (Ns.of (row_own (by repeat (first | exact .head _ | refine .tail _ ?_ | refine List.mem_append_right _ ?_)) w hw)))) rfl rfl (by intro _ _ _ hK x hx; obtain ⟨rfl, rfl⟩ := hK; repeat (first | exact hx | refine List.mem_append_right _ ?_ | refine .tail _ ?_)) ?_
          rintro _ _ ⟨rfl, rfl⟩
          refine d_x rfl (x_val call_17 rfl (fun w hw => line_fn (bor .u8 c 2) cb cf cs (bor2 hc).1 hcb hcf hcs _ _ _ _ (filled b) [16, x2, t2, band .u8 g2 127] (filled_byts hb) hb2 (Nat.le_refl _) (line % 8) (List.replicate 160 0) (by simp) zeros_byts w (hL43.ns hw (by intro x hx; simp [hx])) (Ns.of (row_own (by repeat (first | exact .head _ | refine .tail _ ?_ | refine List.mem_append_right _ ?_)) w hw)))) rfl rfl (by intro h; cases h) ?_
          rintro _ _ ⟨rfl, rfl⟩
          refine d_x rfl (by first | exact (x_store (vs := lineL (filled b) [16, x1, t1, band .u8 g1 127] (bor .u8 c 2) cb cf cs (line % 8) (List.replicate 160 0)) (l := List.replicate 160 (.int .u8 0)) 0 rfl rfl rfl (by rw [lineL_len]; rfl) (lineL_ones _ _ _ _ _ _ _ _) rfl (by rw [lineL_len]; simp)) | exact (x_store (vs := lineL (filled b) [16, x1, t1, band .u8 g1 127] (bor .u8 c 2) cb cf cs (line % 8) (List.replicate 160 0)) (l := List.replicate 160 (.int .u8 0)) 1 rfl rfl rfl (by rw [lineL_len]; rfl) (lineL_ones _ _ _ _ _ _ _ _) rfl (by rw [lineL_len]; simp))) rfl rfl (by intro h; cases h) ?_
          rintro _ _ ⟨rfl, rfl⟩
          rw [putL_all (l := List.replicate 160 (.int .u8 0)) (vs := lineL (filled b) [16, x1, t1, band .u8 g1 127] (bor .u8 c 2) cb cf cs (line % 8) (List.replicate 160 0)) (by rw [lineL_len]; simp)]
          refine d_x rfl (by first | exact (x_store (vs := lineL (filled b) [16, x2, t2, band .u8 g2 127] (bor .u8 c 2) cb cf cs (line % 8) (List.replicate 160 0)) (l := List.replicate 160 (.int .u8 0)) 0 rfl rfl rfl (by rw [lineL_len]; rfl) (lineL_ones _ _ _ _ _ _ _ _) rfl (by rw [lineL_len]; simp)) | exact (x_store (vs := lineL (filled b) [16, x2, t2, band .u8 g2 127] (bor .u8 c 2) cb cf cs (line % 8) (List.replicate 160 0)) (l := List.replicate 160 (.int .u8 0)) 1 rfl rfl rfl (by rw [lineL_len]; rfl) (lineL_ones _ _ _ _ _ _ _ _) rfl (by rw [lineL_len]; simp))) rfl rfl (by intro h; cases h) ?_
          rintro _ _ ⟨rfl, rfl⟩
          rw [putL_all (l := List.replicate 160 (.int .u8 0)) (vs := lineL (filled b) [16, x2, t2, band .u8 g2 127] (bor .u8 c 2) cb cf cs (line % 8) (List.replicate 160 0)) (by rw [lineL_len]; simp)]
          refine d_nil ?_
          exact ⟨(b26, b27), trivial, .cons rfl (.cons rfl .nil), (by repeat (first | exact Agree.refl _ _ | exact Agree.mix rfl | refine Agree.put rfl ?_ | refine Agree.keep rfl ?_)), fun w h => h⟩
        exact d_stop
      refine d_fork ?_ ?_
      · refine d_x rfl (x_alloc (l := List.replicate 160 (.int .u8 0)) (by kernel_rfl)) rfl rfl (by intro _ _ _ hK x hx; obtain ⟨_, rfl, rfl⟩ := hK; repeat (first | exact hx | refine List.mem_append_right _ ?_ | refine .tail _ ?_)) ?_
        rintro _ _ ⟨b27, rfl, rfl⟩
        refine d_fork ?_ ?_
        · refine d_x rfl (x_val call_17 rfl (fun w hw => line_fn (bor .u8 c 2) cb cf cs (bor2 hc).1 hcb hcf hcs _ _ _ _ (filled b) [16, x1, t1, band .u8 g1 127] (filled_byts hb) hb1 (Nat.le_refl _) (line % 8) (List.replicate 160 0) (by simp) zeros_byts w (hL43.ns hw (by intro x hx; simp [hx])) (Ns.of (row_own (by repeat (first | exact .head _ | refine .tail _ ?_ | refine List.mem_append_right _ ?_)) w hw)))) rfl rfl (by intro _ _ _ hK x hx; obtain ⟨rfl, rfl⟩ := hK; repeat (first | exact hx | refine List.mem_append_right _ ?_ | refine .tail _ ?_)) ?_
          rintro _ _ ⟨rfl, rfl⟩
          refine d_fork ?_ ?_
          · refine d_x rfl (x_val call_17 rfl (fun w hw => line_fn (bor .u8 c 2) cb cf cs (bor2 hc).1 hcb hcf hcs _ _ _ _ (filled b) [16, x2, t2, band .u8 g2 127] (filled_byts hb) hb2 (Nat.le_refl _) (line % 8) (List.replicate 160 0) (by simp) zeros_byts w (hL43.ns hw (by intro x hx; simp [hx])) (Ns.of (row_own (by repeat (first | exact .head _ | refine .tail _ ?_ | refine List.mem_append_right _ ?_)) w hw)))) rfl rfl (by intro h; cases h) ?_
            rintro _ _ ⟨rfl, rfl⟩
            refine d_x rfl (x_alloc (l := List.replicate 160 (.int .u8 0)) (by kernel_rfl)) rfl rfl (by intro _ _ _ hK x hx; obtain ⟨_, rfl, rfl⟩ := hK; repeat (first | exact hx | refine List.mem_append_right _ ?_ | refine .tail _ ?_)) ?_
            rintro _ _ ⟨b26, rfl, rfl⟩
            refine d_x rfl (by first | exact (x_store (vs := lineL (filled b) [16, x1, t1, band .u8 g1 127] (bor .u8 c 2) cb cf cs (line % 8) (List.replicate 160 0)) (l := List.replicate 160 (.int .u8 0)) 0 rfl rfl rfl (by rw [lineL_len]; rfl) (lineL_ones _ _ _ _ _ _ _ _) rfl (by rw [lineL_len]; simp)) | exact (x_store (vs := lineL (filled b) [16, x1, t1, band .u8 g1 127] (bor .u8 c 2) cb cf cs (line % 8) (List.replicate 160 0)) (l := List.replicate 160 (.int .u8 0)) 1 rfl rfl rfl (by rw [lineL_len]; rfl) (lineL_ones _ _ _ _ _ _ _ _) rfl (by rw [lineL_len]; simp))) rfl rfl (by intro h; cases h) ?_
            rintro _ _ ⟨rfl, rfl⟩
            rw [putL_all (l := List.replicate 160 (.int .u8 0)) (vs := lineL (filled b) [16, x1, t1, band .u8 g1 127] (bor .u8 c 2) cb cf cs (line % 8) (List.replicate 160 0)) (by rw [lineL_len]; simp)]
            refine d_x rfl (by first | exact (x_store (vs := lineL (filled b) [16, x2, t2, band .u8 g2 127] (bor .u8 c 2) cb cf cs (line % 8) (List.replicate 160 0)) (l := List.replicate 160 (.int .u8 0)) 0 rfl rfl rfl (by rw [lineL_len]; rfl) (lineL_ones _ _ _ _ _ _ _ _) rfl (by rw [lineL_len]; simp)) | exact (x_store (vs := lineL (filled b) [16, x2, t2, band .u8 g2 127] (bor .u8 c 2) cb cf cs (line % 8) (List.replicate 160 0)) (l := List.replicate 160 (.int .u8 0)) 1 rfl rfl rfl (by rw [lineL_len]; rfl) (lineL_ones _ _ _ _ _ _ _ _) rfl (by rw [lineL_len]; simp))) rfl rfl (by intro h; cases h) ?_
            rintro _ _ ⟨rfl, rfl⟩
            rw [putL_all (l := List.replicate 160 (.int .u8 0)) (vs := lineL (filled b) [16, x2, t2, band .u8 g2 127] (bor .u8 c 2) cb cf cs (line % 8) (List.replicate 160 0)) (by rw [lineL_len]; simp)]
            refine d_nil ?_
            exact ⟨(b26, b27), trivial, .cons rfl (.cons rfl .nil), (by repeat (first | exact Agree.refl _ _ | exact Agree.mix rfl | refine Agree.put rfl ?_ | refine Agree.keep rfl ?_)), fun w h => h.perm (List.Perm.swap _ _ _)⟩
          refine d_fork ?_ ?_
          · refine d_x rfl (x_alloc (l := List.replicate 160 (.int .u8 0)) (by kernel_rfl)) rfl rfl (by intro _ _ _ hK x hx; obtain ⟨_, rfl, rfl⟩ := hK; repeat (first | exact hx | refine List.mem_append_right _ ?_ | refine .tail _ ?_)) ?_
            rintro _ _ ⟨b26, rfl, rfl⟩
            refine d_x rfl (x_val call_17 rfl (fun w hw => line_fn (bor .u8 c 2) cb cf cs (bor2 hc).1 hcb hcf hcs _ _ _ _ (filled b) [16, x2, t2, band .u8 g2 127] (filled_byts hb) hb2 (Nat.le_refl _) (line % 8) (List.replicate 160 0) (by simp) zeros_byts w (hL43.ns hw (by intro x hx; simp [hx])) (Ns.of (row_own (by repeat (first | exact .head _ | refine .tail _ ?_ | refine List.mem_append_right _ ?_)) w hw)))) rfl rfl (by intro h; cases h) ?_
            rintro _ _ ⟨rfl, rfl⟩
            refine d_x rfl (by first | exact (x_store (vs := lineL (filled b) [16, x1, t1, band .u8 g1 127] (bor .u8 c 2) cb cf cs (line % 8) (List.replicate 160 0)) (l := List.replicate 160 (.int .u8 0)) 0 rfl rfl rfl (by rw [lineL_len]; rfl) (lineL_ones _ _ _ _ _ _ _ _) rfl (by rw [lineL_len]; simp)) | exact (x_store (vs := lineL (filled b) [16, x1, t1, band .u8 g1 127] (bor .u8 c 2) cb cf cs (line % 8) (List.replicate 160 0)) (l := List.replicate 160 (.int .u8 0)) 1 rfl rfl rfl (by rw [lineL_len]; rfl) (lineL_ones _ _ _ _ _ _ _ _) rfl (by rw [lineL_len]; simp))) rfl rfl (by intro h; cases h) ?_
            rintro _ _ ⟨rfl, rfl⟩
            rw [putL_all (l := List.replicate 160 (.int .u8 0)) (vs := lineL (filled b) [16, x1, t1, band .u8 g1 127] (bor .u8 c 2) cb cf cs (line % 8) (List.replicate 160 0)) (by rw [lineL_len]; simp)]
            refine d_x rfl (by first | exact (x_store (vs := lineL (filled b) [16, x2, t2, band .u8 g2 127] (bor .u8 c 2) cb cf cs (line % 8) (List.replicate 160 0)) (l := List.replicate 160 (.int .u8 0)) 0 rfl rfl rfl (by rw [lineL_len]; rfl) (lineL_ones _ _ _ _ _ _ _ _) rfl (by rw [lineL_len]; simp)) | exact (x_store (vs := lineL (filled b) [16, x2, t2, band .u8 g2 127] (bor .u8 c 2) cb cf cs (line % 8) (List.replicate 160 0)) (l := List.replicate 160 (.int .u8 0)) 1 rfl rfl rfl (by rw [lineL_len]; rfl) (lineL_ones _ _ _ _ _ _ _ _) rfl (by rw [lineL_len]; simp))) rfl rfl (by intro h; cases h) ?_
            rintro _ _ ⟨rfl, rfl⟩
            rw [putL_all (l := List.replicate 160 (.int .u8 0)) (vs := lineL (filled b) [16, x2, t2, band .u8 g2 127] (bor .u8 c 2) cb cf cs (line % 8) (List.replicate 160 0)) (by rw [lineL_len]; simp)]
            refine d_nil ?_
            exact ⟨(b26, b27), trivial, .cons rfl (.cons rfl .nil), (by repeat (first | exact Agree.refl _ _ | exact Agree.mix rfl | refine Agree.put rfl ?_ | refine Agree.keep rfl ?_)), fun w h => h.perm (List.Perm.swap _ _ _)⟩
          exact d_stop
        refine d_fork ?_ ?_
        · refine d_x rfl (x_alloc (l := List.replicate 160 (.int .u8 0)) (by kernel_rfl)) rfl rfl (by intro _ _ _ hK x hx; obtain ⟨_, rfl, rfl⟩ := hK; repeat (first | exact hx | refine List.mem_append_right _ ?_ | refine .tail _ ?_)) ?_
          rintro _ _ ⟨b26, rfl, rfl⟩
          refine d_x rfl (x_val call_17 rfl (fun w hw => line_fn (bor .u8 c 2) cb cf cs (bor2 hc).1 hcb hcf hcs _ _ _ _ (filled b) [16, x1, t1, band .u8 g1 127] (filled_byts hb) hb1 (Nat.le_refl _) (line % 8) (List.replicate 160 0) (by simp) zeros_byts w (hL43.ns hw (by intro x hx; simp [hx])) (Ns.of (row_own (by repeat (first | exact .head _ | refine .tail _ ?_ | refine List.mem_append_right _ ?_)) w hw)))) rfl rfl (by intro _ _ _ hK x hx; obtain ⟨rfl, rfl⟩ := hK; repeat (first | exact hx | refine List.mem_append_right _ ?_ | refine .tail _ ?_)) ?_
          rintro _ _ ⟨rfl, rfl⟩
          refine d_x rfl (x_val call_17 rfl (fun w hw => line_fn (bor .u8 c 2) cb cf cs (bor2 hc).1 hcb hcf hcs _ _ _ _ (filled b) [16, x2, t2, band .u8 g2 127] (filled_byts hb) hb2 (Nat.le_refl _) (line % 8) (List.replicate 160 0) (by simp) zeros_byts w (hL43.ns hw (by intro x hx; simp [hx])) (Ns.of (row_own (by repeat (first | exact .head _ | refine .tail _ ?_ | refine List.mem_append_right _ ?_)) w hw)))) rfl rfl (by intro h; cases h) ?_
          rintro _ _ ⟨rfl, rfl⟩
          refine d_x rfl (by first | exact (x_store (vs := lineL (filled b) [16, x1, t1, band .u8 g1 127] (bor .u8 c 2) cb cf cs (line % 8) (List.replicate 160 0)) (l := List.replicate 160 (.int .u8 0)) 0 rfl rfl rfl (by rw [lineL_len]; rfl) (lineL_ones _ _ _ _ _ _ _ _) rfl (by rw [lineL_len]; simp)) | exact (x_store (vs := lineL (filled b) [16, x1, t1, band .u8 g1 127] (bor .u8 c 2) cb cf cs (line % 8) (List.replicate 160 0)) (l := List.replicate 160 (.int .u8 0)) 1 rfl rfl rfl (by rw [lineL_len]; rfl) (lineL_ones _ _ _ _ _ _ _ _) rfl (by rw [lineL_len]; simp))) rfl rfl (by intro h; cases h) ?_
          rintro _ _ ⟨rfl, rfl⟩
          rw [putL_all (l := List.replicate 160 (.int .u8 0)) (vs := lineL (filled b) [16, x1, t1, band .u8 g1 127] (bor .u8 c 2) cb cf cs (line % 8) (List.replicate 160 0)) (by rw [lineL_len]; simp)]
          refine d_x rfl (by first | exact (x_store (vs := lineL (filled b) [16, x2, t2, band .u8 g2 127] (bor .u8 c 2) cb cf cs (line % 8) (List.replicate 160 0)) (l := List.replicate 160 (.int .u8 0)) 0 rfl rfl rfl (by rw [lineL_len]; rfl) (lineL_ones _ _ _ _ _ _ _ _) rfl (by rw [lineL_len]; simp)) | exact (x_store (vs := lineL (filled b) [16, x2, t2, band .u8 g2 127] (bor .u8 c 2) cb cf cs (line % 8) (List.replicate 160 0)) (l := List.replicate 160 (.int .u8 0)) 1 rfl rfl rfl (by rw [lineL_len]; rfl) (lineL_ones _ _ _ _ _ _ _ _) rfl (by rw [lineL_len]; simp))) rfl rfl (by intro h; cases h) ?_
          rintro _ _ ⟨rfl, rfl⟩
          rw [putL_all (l := List.replicate 160 (.int .u8 0)) (vs := lineL (filled b) [16, x2, t2, band .u8 g2 127] (bor .u8 c 2) cb cf cs (line % 8) (List.replicate 160 0)) (by rw [lineL_len]; simp)]
          refine d_nil ?_
          exact ⟨(b26, b27), trivial, .cons rfl (.cons rfl .nil), (by repeat (first | exact Agree.refl _ _ | exact Agree.mix rfl | refine Agree.put rfl ?_ | refine Agree.keep rfl ?_)), fun w h => h.perm (List.Perm.swap _ _ _)⟩
        exact d_stop
      exact d_stop
    · rintro ⟨b26, b27⟩ y10 _
      refine c_seq ?_
      refine c_seq ?_
      refine c_region ?_
      refine l_l rfl rfl rfl ?_
      refine l_nil ?_
      refine c_block ?_
      refine c_loopk (σ := Nat) [18, 28, 29, 30, 31, 32, 33, 85, 86, 87, 88, 89, 90, 91, 92, 93, 94, 95, 96, 97, 98, 99, 100, 101, 102, 103, 104, 105, 106, 107, 108, 109, 110, 111, 112, 113, 114, 115, 116, 117, 118, 119, 120, 121, 122, 123, 124, 125, 126, 127] (fun k => [(85, .int .i64 k)]) (fun k => k ≤ 160) (fun k => 160 - k) 0 ?_ ?_ ?_
      · show 0 ≤ 160; omega
      · exact .cons rfl .nil
      · intro k y hk
        refine c_seq ?_
        refine c_region ?_
        refine l_l rfl rfl rfl ?_
        refine l_nil ?_
        refine c_seq ?_
        refine c_cond rfl (fun h2 => ?_) (fun h2 => ?_)
        · refine c_skip ?_
          refine c_seq ?_
          refine c_block ?_
          refine c_seq ?_
          refine c_region ?_
          refine l_l rfl rfl rfl ?_
          refine l_l rfl rfl rfl ?_
          refine l_nil ?_
          refine c_seq ?_
          have hk160 : k < 160 := by simp at *; omega
          refine c_region ?_
          refine l_x (x_loadA rfl rfl rfl (row_own (by repeat (first | exact .head _ | refine .tail _ ?_ | refine List.mem_append_right _ ?_)))) rfl rfl ?_
          rintro _ _ ⟨rfl, rfl⟩
          refine l_l rfl rfl rfl ?_
          refine l_l rfl rfl rfl ?_
          refine l_l rfl rfl rfl ?_
          refine l_l rfl rfl rfl ?_
          refine l_x (x_val call_11 rfl (fun w hw => spdot_fn (bor .u8 c 2) cb cf cs (bor2 hc).1 _ _ _ _ (filled b) [16, x1, t1, band .u8 g1 127, 16, x2, t2, band .u8 g2 127] (filled_byts hb) hb8 0 (k : Int) (line % 8) (by simpa using hc66) w (hL43.ns hw (by intro x hx; simp [hx])) (hL66.ns hw (by intro x hx; simp [hx])))) rfl rfl ?_
          rintro _ _ ⟨rfl, rfl⟩
          refine l_l rfl rfl rfl ?_
          refine l_l rfl rfl rfl ?_
          refine l_l rfl rfl rfl ?_
          refine l_l rfl rfl rfl ?_
          refine l_l rfl rfl rfl ?_
          refine l_nil ?_
          refine c_seq ?_
          refine c_region ?_
          refine l_x (x_loadA rfl rfl rfl (row_own (by repeat (first | exact .head _ | refine .tail _ ?_ | refine List.mem_append_right _ ?_)))) rfl rfl ?_
          rintro _ _ ⟨rfl, rfl⟩
          refine l_l rfl rfl rfl ?_
          refine l_l rfl rfl rfl ?_
          refine l_l rfl rfl rfl ?_
          refine l_l rfl rfl rfl ?_
          refine l_x (x_val call_11 rfl (fun w hw => spdot_fn (bor .u8 c 2) cb cf cs (bor2 hc).1 _ _ _ _ (filled b) [16, x1, t1, band .u8 g1 127, 16, x2, t2, band .u8 g2 127] (filled_byts hb) hb8 1 (k : Int) (line % 8) (by simpa using hc66) w (hL43.ns hw (by intro x hx; simp [hx])) (hL66.ns hw (by intro x hx; simp [hx])))) rfl rfl ?_
          rintro _ _ ⟨rfl, rfl⟩
          refine l_l rfl rfl rfl ?_
          refine l_l rfl rfl rfl ?_
          refine l_l rfl rfl rfl ?_
          refine l_l rfl rfl rfl ?_
          refine l_l rfl rfl rfl ?_
          refine l_nil ?_
          refine c_seq ?_
          refine c_region ?_
          refine l_l rfl rfl rfl ?_
          refine l_l (idx_array0 k rfl rfl rfl rfl hk160) rfl rfl ?_
          refine l_x (x_load rfl rfl (at_own (.tail _ (.head _)) (lineL_get _ _ _ _ _ _ _ _ hk160))) rfl rfl ?_
          rintro _ _ ⟨rfl, rfl⟩
          refine l_l rfl rfl rfl ?_
          refine l_nil ?_
          refine c_seq ?_
          refine c_seq ?_
          refine c_region ?_
          refine l_l rfl rfl rfl ?_
          refine l_b rfl rfl rfl (fun h3 => ?_) (fun h3 => ?_)
          · refine l_l rfl rfl rfl ?_
            refine l_l rfl rfl rfl ?_
            refine l_b rfl rfl rfl (fun h4 => ?_) (fun h4 => ?_)
            · refine l_p rfl rfl ?_
              refine l_p rfl rfl ?_
              refine l_p rfl rfl ?_
              refine l_l rfl rfl rfl ?_
              refine l_l rfl rfl rfl ?_
              refine l_nil ?_
              refine c_true rfl ?_
              refine c_region ?_
              refine l_l rfl rfl rfl ?_
              refine l_l (idx_array0 k rfl rfl rfl rfl hk160) rfl rfl ?_
              refine l_x (x_load rfl rfl (at_own (.head _) (lineL_get _ _ _ _ _ _ _ _ hk160))) rfl rfl ?_
              rintro _ _ ⟨rfl, rfl⟩
              refine l_l rfl rfl rfl ?_
              refine l_nil ?_
              refine c_seq ?_
              refine c_region ?_
              refine l_l rfl rfl rfl ?_
              refine l_l (idx_array0 k rfl rfl rfl rfl hk160) rfl rfl ?_
              refine l_x (x_load rfl rfl (at_own (.tail _ (.tail _ (.head _))) (lineL_get _ _ _ _ _ _ _ _ hk160))) rfl rfl ?_
              rintro _ _ ⟨rfl, rfl⟩
              refine l_l rfl rfl rfl ?_
              refine l_sure false rfl rfl rfl (by rw [left_yes (bor2 hc).2 hl8 k h3 (.inl (by simpa using h4))]; simp) ?_
              refine l_nil ?_
              refine c_false rfl ?_
              refine c_skip ?_
              refine c_region ?_
              refine l_l rfl rfl rfl ?_
              refine l_l rfl rfl rfl ?_
              refine l_nil ?_
              exact ⟨k + 1, by omega, by omega, .cons (congrArg _ (succ_law (by omega))) .nil, (by repeat (first | exact Agree.refl _ _ | exact Agree.mix rfl | refine Agree.put rfl ?_ | refine Agree.keep rfl ?_)), fun _ h => h⟩
            · refine l_l rfl rfl rfl ?_
              refine l_l rfl rfl rfl ?_
              refine l_l rfl rfl rfl ?_
              refine l_l rfl rfl rfl ?_
              refine l_l rfl rfl rfl ?_
              refine l_nil ?_
              refine c_cond rfl (fun h5 => ?_) (fun h5 => ?_)
              · refine c_region ?_
                refine l_l rfl rfl rfl ?_
                refine l_l (idx_array0 k rfl rfl rfl rfl hk160) rfl rfl ?_
                refine l_x (x_load rfl rfl (at_own (.head _) (lineL_get _ _ _ _ _ _ _ _ hk160))) rfl rfl ?_
                rintro _ _ ⟨rfl, rfl⟩
                refine l_l rfl rfl rfl ?_
                refine l_nil ?_
                refine c_seq ?_
                refine c_region ?_
                refine l_l rfl rfl rfl ?_
                refine l_l (idx_array0 k rfl rfl rfl rfl hk160) rfl rfl ?_
                refine l_x (x_load rfl rfl (at_own (.tail _ (.tail _ (.head _))) (lineL_get _ _ _ _ _ _ _ _ hk160))) rfl rfl ?_
                rintro _ _ ⟨rfl, rfl⟩
                refine l_l rfl rfl rfl ?_
                refine l_sure false rfl rfl rfl (by rw [left_yes (bor2 hc).2 hl8 k h3 (.inr (by simpa using h5))]; simp) ?_
                refine l_nil ?_
                refine c_false rfl ?_
                refine c_skip ?_
                refine c_region ?_
                refine l_l rfl rfl rfl ?_
                refine l_l rfl rfl rfl ?_
                refine l_nil ?_
                exact ⟨k + 1, by omega, by omega, .cons (congrArg _ (succ_law (by omega))) .nil, (by repeat (first | exact Agree.refl _ _ | exact Agree.mix rfl | refine Agree.put rfl ?_ | refine Agree.keep rfl ?_)), fun _ h => h⟩
              · refine c_skip ?_
                refine c_seq ?_
                refine c_region ?_
                refine l_l rfl rfl rfl ?_
                refine l_l (idx_array0 k rfl rfl rfl rfl hk160) rfl rfl ?_
                refine l_x (x_load rfl rfl (at_own (.tail _ (.tail _ (.head _))) (lineL_get _ _ _ _ _ _ _ _ hk160))) rfl rfl ?_
                rintro _ _ ⟨rfl, rfl⟩
                refine l_l rfl rfl rfl ?_
                refine l_sure false rfl rfl rfl (by rw [left_no (bor2 hc).2 hl8 k (.inr ⟨by simpa using h4, by simpa using h5⟩)]; simp) ?_
                refine l_nil ?_
                refine c_false rfl ?_
                refine c_skip ?_
                refine c_region ?_
                refine l_l rfl rfl rfl ?_
                refine l_l rfl rfl rfl ?_
                refine l_nil ?_
                exact ⟨k + 1, by omega, by omega, .cons (congrArg _ (succ_law (by omega))) .nil, (by repeat (first | exact Agree.refl _ _ | exact Agree.mix rfl | refine Agree.put rfl ?_ | refine Agree.keep rfl ?_)), fun _ h => h⟩
          · refine l_p rfl rfl ?_
            refine l_p rfl rfl ?_
            refine l_p rfl rfl ?_
            refine l_p rfl rfl ?_
            refine l_p rfl rfl ?_
            refine l_p rfl rfl ?_
            refine l_p rfl rfl ?_
            refine l_l rfl rfl rfl ?_
            refine l_nil ?_
            refine c_false rfl ?_
            refine c_skip ?_
            refine c_seq ?_
            refine c_region ?_
            refine l_l rfl rfl rfl ?_
            refine l_l (idx_array0 k rfl rfl rfl rfl hk160) rfl rfl ?_
            refine l_x (x_load rfl rfl (at_own (.tail _ (.tail _ (.head _))) (lineL_get _ _ _ _ _ _ _ _ hk160))) rfl rfl ?_
            rintro _ _ ⟨rfl, rfl⟩
            refine l_l rfl rfl rfl ?_
            refine l_sure false rfl rfl rfl (by rw [left_no (bor2 hc).2 hl8 k (.inl h3)]; simp) ?_
            refine l_nil ?_
            refine c_false rfl ?_
            refine c_skip ?_
            refine c_region ?_
            refine l_l rfl rfl rfl ?_
            refine l_l rfl rfl rfl ?_
            refine l_nil ?_
            exact ⟨k + 1, by omega, by omega, .cons (congrArg _ (succ_law (by omega))) .nil, (by repeat (first | exact Agree.refl _ _ | exact Agree.mix rfl | refine Agree.put rfl ?_ | refine Agree.keep rfl ?_)), fun _ h => h⟩
        · refine c_exit rfl ?_
          refine c_seq ?_
          refine c_region ?_
          refine l_l rfl rfl rfl ?_
          refine l_nil ?_
          refine c_ret ?_
          exact l_end0 (fun _ _ => rets_v rfl) ⟨rfl, rfl⟩

end Go.Proofs.Ytmdcapafaiemgaa
