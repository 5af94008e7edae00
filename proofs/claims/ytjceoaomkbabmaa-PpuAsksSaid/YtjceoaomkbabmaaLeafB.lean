/- The contracts of what a sprite is. -/
import Derived.Test.YtjceoaomkbabmaaLeaf
import Derived.Test.YtjceoaomkbabmaaCalls
namespace Go.Proofs.Ytjceoaomkbabmaa
open Go Go.VV Go.Proofs
set_option linter.unusedSimpArgs false
set_option linter.unusedVariables false
set_option maxRecDepth 100000
theorem of_fn (a : Option Addr) (cap : Nat) (l : List Int) (hl : Byts l) (n : Int) (hn : 0 ≤ n ∧ n < 40) (hcap : l.length ≤ cap) (w : World) (hB : Ns w .u8 a l) :
    Does Try.prog 59 [.slice a l.length cap, .int .i64 n] w [] (fun v H => H = [] ∧ v = .agg #[.int .i64 n, .int .i64 (oB l n 0 - 16), .int .i64 (oB l n 1 - 8), .int .i64 (oB l n 2), .int .u8 (oB l n 3)]) := by
  refine does_of Try.func59 rfl rfl rfl (St.refl w) ?_
  refine c_seq ?_
  refine c_region ?_
  refine l_x (x_alloc rfl) rfl rfl ?_
  rintro _ _ ⟨b4, rfl, rfl⟩
  refine l_nil ?_
  refine c_seq ?_
  refine c_region ?_
  refine l_x (x_alloc rfl) rfl rfl ?_
  rintro _ _ ⟨b5, rfl, rfl⟩
  refine l_nil ?_
  refine c_seq ?_
  refine c_seq ?_
  refine c_region ?_
  refine l_l rfl rfl rfl ?_
  refine l_l rfl rfl rfl ?_
  rw [wrap_i64 (n := 4 * n) (by omega) (by omega)]
  refine l_l rfl rfl rfl ?_
  refine l_nil ?_
  refine c_seq ?_
  refine c_region ?_
  refine l_l rfl rfl rfl ?_
  refine l_l rfl rfl rfl ?_
  refine l_l (by first | exact light_len rfl rfl | exact light_lens rfl rfl | rfl) rfl rfl ?_
  refine l_l rfl rfl rfl ?_
  refine l_nil ?_
  refine c_cond rfl (fun h1 => ?_) (fun h1 => ?_)
  · obtain ⟨b, off, rfl, hr⟩ := hB.row (i := (4 * n).toNat) (by simp at *; omega)
    refine c_draw _ [] (.step true 0 (.step true 1 (.step true 2 (.step true 3 (.step false 4 .done))))) rfl (by kernel_rfl) (by kernel_rfl) (fun _ h => h) ?_
    refine d_light rfl (cut_array1 0 4 rfl rfl rfl rfl rfl rfl (by decide) (by decide)) rfl rfl rfl ?_
    refine d_light rfl rfl rfl rfl rfl ?_
    refine d_light rfl rfl rfl rfl rfl ?_
    refine d_light rfl (cut_slice1 (4 * n).toNat l.length rfl rfl rfl rfl (by show 4 * n = _; omega) rfl (by simp at *; omega) hcap) rfl rfl rfl ?_
    refine d_x rfl (x_copy (off := 0) (dl := 4) (m := l.length - (4 * n).toNat) 0 rfl rfl rfl rfl rfl (fun w hw => .row _ _ _ _ _ (by simp) ((row_old hr (by simp) w hw).cut1 (k := l.length - (4 * n).toNat) (c := cap) (by simp at *; omega))) (ones_cut _ _ _ _) (by simp; omega)) rfl rfl (by intro h; cases h) ?_
    rintro _ _ ⟨rfl, rfl⟩
    simp only [List.set_cons_zero, four_law hn (by simp at *; omega)]
    refine d_nil ?_
    refine c_seq ?_
    refine c_region ?_
    refine l_l rfl rfl rfl ?_
    refine l_l (by first | exact idx_array1 0 rfl rfl rfl rfl (by decide) | exact idx_slice1 0 rfl rfl rfl rfl (by decide) | exact idx_array 0 rfl rfl rfl rfl (by decide) | exact idx_slice 0 rfl rfl rfl rfl (by decide)) rfl rfl ?_
    refine l_x (x_load rfl rfl (at_own (by repeat (first | exact .head _ | refine .tail _ ?_ | refine List.mem_append_right _ ?_)) (by rfl))) rfl rfl ?_
    rintro _ _ ⟨rfl, rfl⟩
    refine l_l rfl rfl rfl ?_
    refine l_l rfl rfl rfl ?_
    refine l_l (by first | exact idx_array1 1 rfl rfl rfl rfl (by decide) | exact idx_slice1 1 rfl rfl rfl rfl (by decide) | exact idx_array 1 rfl rfl rfl rfl (by decide) | exact idx_slice 1 rfl rfl rfl rfl (by decide)) rfl rfl ?_
    refine l_x (x_load rfl rfl (at_own (by repeat (first | exact .head _ | refine .tail _ ?_ | refine List.mem_append_right _ ?_)) (by rfl))) rfl rfl ?_
    rintro _ _ ⟨rfl, rfl⟩
    refine l_l rfl rfl rfl ?_
    refine l_l rfl rfl rfl ?_
    refine l_l (by first | exact idx_array1 2 rfl rfl rfl rfl (by decide) | exact idx_slice1 2 rfl rfl rfl rfl (by decide) | exact idx_array 2 rfl rfl rfl rfl (by decide) | exact idx_slice 2 rfl rfl rfl rfl (by decide)) rfl rfl ?_
    refine l_x (x_load rfl rfl (at_own (by repeat (first | exact .head _ | refine .tail _ ?_ | refine List.mem_append_right _ ?_)) (by rfl))) rfl rfl ?_
    rintro _ _ ⟨rfl, rfl⟩
    refine l_l rfl rfl rfl ?_
    refine l_l (by first | exact idx_array1 3 rfl rfl rfl rfl (by decide) | exact idx_slice1 3 rfl rfl rfl rfl (by decide) | exact idx_array 3 rfl rfl rfl rfl (by decide) | exact idx_slice 3 rfl rfl rfl rfl (by decide)) rfl rfl ?_
    refine l_x (x_load rfl rfl (at_own (by repeat (first | exact .head _ | refine .tail _ ?_ | refine List.mem_append_right _ ?_)) (by rfl))) rfl rfl ?_
    rintro _ _ ⟨rfl, rfl⟩
    refine l_l (light_struct rfl rfl rfl rfl) rfl rfl ?_
    refine l_x (by first | exact x_store 0 rfl rfl rfl rfl rfl rfl (by first | rfl | exact Nat.le_of_ble_eq_true rfl | (simp; done)) | exact x_store 1 rfl rfl rfl rfl rfl rfl (by first | rfl | exact Nat.le_of_ble_eq_true rfl | (simp; done)) | exact x_store 2 rfl rfl rfl rfl rfl rfl (by first | rfl | exact Nat.le_of_ble_eq_true rfl | (simp; done)) | exact x_store 3 rfl rfl rfl rfl rfl rfl (by first | rfl | exact Nat.le_of_ble_eq_true rfl | (simp; done))) rfl rfl ?_
    rintro _ _ ⟨rfl, rfl⟩
    refine l_nil ?_
    refine c_ret ?_
    exact l_end0 (fun w hw => rets_cell rfl rfl rfl (row_own (by repeat (first | exact .head _ | refine .tail _ ?_ | refine List.mem_append_right _ ?_)) w hw)) ⟨rfl, of_law hl n⟩
  · refine c_skip ?_
    refine c_seq ?_
    rw [four_none' hn (by simp at *; omega)]
    refine c_region ?_
    refine l_l rfl rfl rfl ?_
    refine l_l (by first | exact idx_array1 0 rfl rfl rfl rfl (by decide) | exact idx_slice1 0 rfl rfl rfl rfl (by decide) | exact idx_array 0 rfl rfl rfl rfl (by decide) | exact idx_slice 0 rfl rfl rfl rfl (by decide)) rfl rfl ?_
    refine l_x (x_load rfl rfl (at_own (by repeat (first | exact .head _ | refine .tail _ ?_ | refine List.mem_append_right _ ?_)) (by rfl))) rfl rfl ?_
    rintro _ _ ⟨rfl, rfl⟩
    refine l_l rfl rfl rfl ?_
    refine l_l rfl rfl rfl ?_
    refine l_l (by first | exact idx_array1 1 rfl rfl rfl rfl (by decide) | exact idx_slice1 1 rfl rfl rfl rfl (by decide) | exact idx_array 1 rfl rfl rfl rfl (by decide) | exact idx_slice 1 rfl rfl rfl rfl (by decide)) rfl rfl ?_
    refine l_x (x_load rfl rfl (at_own (by repeat (first | exact .head _ | refine .tail _ ?_ | refine List.mem_append_right _ ?_)) (by rfl))) rfl rfl ?_
    rintro _ _ ⟨rfl, rfl⟩
    refine l_l rfl rfl rfl ?_
    refine l_l rfl rfl rfl ?_
    refine l_l (by first | exact idx_array1 2 rfl rfl rfl rfl (by decide) | exact idx_slice1 2 rfl rfl rfl rfl (by decide) | exact idx_array 2 rfl rfl rfl rfl (by decide) | exact idx_slice 2 rfl rfl rfl rfl (by decide)) rfl rfl ?_
    refine l_x (x_load rfl rfl (at_own (by repeat (first | exact .head _ | refine .tail _ ?_ | refine List.mem_append_right _ ?_)) (by rfl))) rfl rfl ?_
    rintro _ _ ⟨rfl, rfl⟩
    refine l_l rfl rfl rfl ?_
    refine l_l (by first | exact idx_array1 3 rfl rfl rfl rfl (by decide) | exact idx_slice1 3 rfl rfl rfl rfl (by decide) | exact idx_array 3 rfl rfl rfl rfl (by decide) | exact idx_slice 3 rfl rfl rfl rfl (by decide)) rfl rfl ?_
    refine l_x (x_load rfl rfl (at_own (by repeat (first | exact .head _ | refine .tail _ ?_ | refine List.mem_append_right _ ?_)) (by rfl))) rfl rfl ?_
    rintro _ _ ⟨rfl, rfl⟩
    refine l_l (light_struct rfl rfl rfl rfl) rfl rfl ?_
    refine l_x (by first | exact x_store 0 rfl rfl rfl rfl rfl rfl (by first | rfl | exact Nat.le_of_ble_eq_true rfl | (simp; done)) | exact x_store 1 rfl rfl rfl rfl rfl rfl (by first | rfl | exact Nat.le_of_ble_eq_true rfl | (simp; done)) | exact x_store 2 rfl rfl rfl rfl rfl rfl (by first | rfl | exact Nat.le_of_ble_eq_true rfl | (simp; done)) | exact x_store 3 rfl rfl rfl rfl rfl rfl (by first | rfl | exact Nat.le_of_ble_eq_true rfl | (simp; done))) rfl rfl ?_
    rintro _ _ ⟨rfl, rfl⟩
    refine l_nil ?_
    refine c_ret ?_
    exact l_end0 (fun w hw => rets_cell rfl rfl rfl (row_own (by repeat (first | exact .head _ | refine .tail _ ?_ | refine List.mem_append_right _ ?_)) w hw)) ⟨rfl, of_law hl n⟩

theorem sdot_fn (c cb cf cs : Int) (hc : 0 ≤ c ∧ c < 256) (a : Option Addr) (cap : Nat) (l : List Int) (hl : Byts l) (n y x0 tile how x line : Int)
    (hy : -16 ≤ y ∧ y ≤ 240) (hx : -8 ≤ x0 ∧ x0 ≤ 248) (ht : 0 ≤ tile ∧ tile < 256) (hh : 0 ≤ how ∧ how < 256) (w : World) (hB : Ns w .u8 a l) :
    Does Try.prog 77 [.agg #[.int .u8 c, .int .u8 cb, .int .u8 cf, .int .u8 cs], .slice a l.length cap, .agg #[.int .i64 n, .int .i64 y, .int .i64 x0, .int .i64 tile, .int .u8 how], .int .i64 x, .int .i64 line] w [] (fun v H => H = [] ∧ v = .int .u8 (sDot l c y x0 tile how x line)) := by
  refine does_of Try.func77 rfl rfl rfl (St.refl w) ?_
  refine c_seq ?_
  refine c_region ?_
  refine l_x (x_box rfl rfl) rfl rfl ?_
  rintro _ _ ⟨b5, rfl, rfl⟩
  refine l_x (x_box rfl rfl) rfl rfl ?_
  rintro _ _ ⟨b7, rfl, rfl⟩
  refine l_l rfl rfl rfl ?_
  refine l_nil ?_
  refine c_seq ?_
  refine c_region ?_
  refine l_x (x_loadA rfl rfl rfl (by first | exact row_own (by repeat (first | exact .head _ | refine .tail _ ?_ | refine List.mem_append_right _ ?_)) | exact row_own_at (by repeat (first | exact .head _ | refine .tail _ ?_ | refine List.mem_append_right _ ?_)) _ 4 rfl)) rfl rfl ?_
  rintro _ _ ⟨rfl, rfl⟩
  refine l_x (x_val call_74 rfl (fun w hw => height_fn c cb cf cs hc w)) rfl rfl ?_
  rintro _ _ ⟨rfl, rfl⟩
  refine l_l rfl rfl rfl ?_
  refine l_nil ?_
  refine c_seq ?_
  refine c_seq ?_
  refine c_region ?_
  refine l_l rfl rfl rfl ?_
  refine l_l (light_fa rfl rfl) rfl rfl ?_
  refine l_x (x_load rfl rfl (at_own (by repeat (first | exact .head _ | refine .tail _ ?_ | refine List.mem_append_right _ ?_)) (by rfl))) rfl rfl ?_
  rintro _ _ ⟨rfl, rfl⟩
  refine l_l rfl rfl rfl ?_
  refine l_x (x_val call_73 rfl (fun w hw => within_fn _ _ _ w)) rfl rfl ?_
  rintro _ _ ⟨rfl, rfl⟩
  refine l_l rfl rfl rfl ?_
  refine l_b rfl rfl rfl (fun h1 => ?_) (fun h1 => ?_)
  · refine l_p rfl rfl ?_
    refine l_p rfl rfl ?_
    refine l_p rfl rfl ?_
    refine l_p rfl rfl ?_
    refine l_p rfl rfl ?_
    refine l_l rfl rfl rfl ?_
    refine l_nil ?_
    refine c_true rfl ?_
    refine c_seq ?_
    refine c_region ?_
    refine l_l rfl rfl rfl ?_
    refine l_nil ?_
    refine c_ret ?_
    exact l_end0 (fun _ _ => rets_v rfl) ⟨rfl, congrArg _ (psdot_none hy hx (by simp at *; omega))⟩
  · refine l_l rfl rfl rfl ?_
    refine l_l (light_fa rfl rfl) rfl rfl ?_
    refine l_x (x_load rfl rfl (at_own (by repeat (first | exact .head _ | refine .tail _ ?_ | refine List.mem_append_right _ ?_)) (by rfl))) rfl rfl ?_
    rintro _ _ ⟨rfl, rfl⟩
    refine l_x (x_val call_73 rfl (fun w hw => within_fn _ _ _ w)) rfl rfl ?_
    rintro _ _ ⟨rfl, rfl⟩
    refine l_l rfl rfl rfl ?_
    refine l_l rfl rfl rfl ?_
    refine l_nil ?_
    refine c_cond rfl (fun h2 => ?_) (fun h2 => ?_)
    · refine c_seq ?_
      refine c_region ?_
      refine l_l rfl rfl rfl ?_
      refine l_nil ?_
      refine c_ret ?_
      exact l_end0 (fun _ _ => rets_v rfl) ⟨rfl, congrArg _ (psdot_none hy hx (by simp at *; omega))⟩
    · refine c_skip ?_
      refine c_seq ?_
      refine c_draw _ [4, 5, 6, 7, 8] (.step true 0 (.step true 1 (.step true 2 (.step true 3 (.step true 4 (.step true 5 (.step true 6 (.step true 7 (.step true 8 (.step true 9 .done)))))))))) rfl (by kernel_rfl) (by kernel_rfl) (fun _ h => h) ?_
      refine d_light rfl rfl rfl rfl rfl ?_
      refine d_light rfl (light_fa rfl rfl) rfl rfl rfl ?_
      refine d_load rfl rfl rfl (s_own (by repeat (first | exact .head _ | refine .tail _ ?_ | refine List.mem_append_right _ ?_)) (by rfl)) rfl rfl ?_
      refine d_light rfl rfl rfl rfl rfl ?_
      refine d_light rfl rfl rfl rfl rfl ?_
      refine d_light rfl (light_fa rfl rfl) rfl rfl rfl ?_
      refine d_load rfl rfl rfl (s_own (by repeat (first | exact .head _ | refine .tail _ ?_ | refine List.mem_append_right _ ?_)) (by rfl)) rfl rfl ?_
      refine d_light rfl rfl rfl rfl rfl ?_
      refine d_light rfl rfl rfl rfl rfl ?_
      refine d_light rfl rfl rfl rfl rfl ?_
      refine d_nil ?_
      refine c_seq ?_
      refine c_seq ?_
      refine c_region ?_
      refine l_l (light_fa rfl rfl) rfl rfl ?_
      refine l_x (x_load rfl rfl (at_own (by repeat (first | exact .head _ | refine .tail _ ?_ | refine List.mem_append_right _ ?_)) (by rfl))) rfl rfl ?_
      rintro _ _ ⟨rfl, rfl⟩
      refine l_l rfl rfl rfl ?_
      refine l_l rfl rfl rfl ?_
      refine l_nil ?_
      refine c_cond rfl (fun h3 => ?_) (fun h3 => ?_)
      · refine c_region ?_
        refine l_l rfl rfl rfl ?_
        refine l_l rfl rfl rfl ?_
        refine l_l rfl rfl rfl ?_
        refine l_l rfl rfl rfl ?_
        refine l_l rfl rfl rfl ?_
        refine l_nil ?_
        refine c_seq ?_
        refine c_seq ?_
        refine c_region ?_
        refine l_l (light_fa rfl rfl) rfl rfl ?_
        refine l_x (x_load rfl rfl (at_own (by repeat (first | exact .head _ | refine .tail _ ?_ | refine List.mem_append_right _ ?_)) (by rfl))) rfl rfl ?_
        rintro _ _ ⟨rfl, rfl⟩
        refine l_l rfl rfl rfl ?_
        refine l_l rfl rfl rfl ?_
        refine l_nil ?_
        refine c_cond rfl (fun h4 => ?_) (fun h4 => ?_)
        · refine c_region ?_
          refine l_l rfl rfl rfl ?_
          refine l_l rfl rfl rfl ?_
          refine l_l rfl rfl rfl ?_
          refine l_nil ?_
          refine c_seq ?_
          refine c_region ?_
          refine l_l (light_fa rfl rfl) rfl rfl ?_
          refine l_x (x_load rfl rfl (at_own (by repeat (first | exact .head _ | refine .tail _ ?_ | refine List.mem_append_right _ ?_)) (by rfl))) rfl rfl ?_
          rintro _ _ ⟨rfl, rfl⟩
          refine l_l rfl rfl rfl ?_
          refine l_nil ?_
          refine c_seq ?_
          refine c_seq ?_
          refine c_region ?_
          refine l_l rfl rfl rfl ?_
          refine l_l rfl rfl rfl ?_
          refine l_nil ?_
          refine c_cond rfl (fun h5 => ?_) (fun h5 => ?_)
          · refine c_region ?_
            refine l_l rfl rfl rfl ?_
            refine l_l rfl rfl rfl ?_
            refine l_l rfl rfl rfl ?_
            refine l_l rfl rfl rfl ?_
            refine l_l rfl rfl rfl ?_
            refine l_l rfl rfl rfl ?_
            refine l_nil ?_
            refine c_seq ?_
            refine c_region ?_
            refine l_l rfl rfl rfl ?_
            refine l_l rfl rfl rfl ?_
            refine l_l rfl rfl rfl ?_
            refine l_l rfl rfl rfl ?_
            refine l_x (x_val call_84 rfl (fun w hw => dot_fn _ _ l hl _ _ _ w (hB.later0 hw))) rfl rfl ?_
            rintro _ _ ⟨rfl, rfl⟩
            refine l_l rfl rfl rfl ?_
            refine l_nil ?_
            refine c_ret ?_
            exact l_end0 (fun _ _ => rets_v rfl) ⟨rfl, congrArg _ (psdot_law hy hx ht hh (by simp at *; omega) (by simp at *; omega) (bu := true) (bt := true) (bh := true) h3 h4 h5)⟩
          · refine c_skip ?_
            refine c_seq ?_
            refine c_region ?_
            refine l_l rfl rfl rfl ?_
            refine l_l rfl rfl rfl ?_
            refine l_l rfl rfl rfl ?_
            refine l_l rfl rfl rfl ?_
            refine l_x (x_val call_84 rfl (fun w hw => dot_fn _ _ l hl _ _ _ w (hB.later0 hw))) rfl rfl ?_
            rintro _ _ ⟨rfl, rfl⟩
            refine l_l rfl rfl rfl ?_
            refine l_nil ?_
            refine c_ret ?_
            exact l_end0 (fun _ _ => rets_v rfl) ⟨rfl, congrArg _ (psdot_law hy hx ht hh (by simp at *; omega) (by simp at *; omega) (bu := true) (bt := true) (bh := false) h3 h4 h5)⟩
        · refine c_skip ?_
          refine c_seq ?_
          refine c_region ?_
          refine l_l (light_fa rfl rfl) rfl rfl ?_
          refine l_x (x_load rfl rfl (at_own (by repeat (first | exact .head _ | refine .tail _ ?_ | refine List.mem_append_right _ ?_)) (by rfl))) rfl rfl ?_
          rintro _ _ ⟨rfl, rfl⟩
          refine l_l rfl rfl rfl ?_
          refine l_nil ?_
          refine c_seq ?_
          refine c_seq ?_
          refine c_region ?_
          refine l_l rfl rfl rfl ?_
          refine l_l rfl rfl rfl ?_
          refine l_nil ?_
          refine c_cond rfl (fun h6 => ?_) (fun h6 => ?_)
          · refine c_region ?_
            refine l_l rfl rfl rfl ?_
            refine l_l rfl rfl rfl ?_
            refine l_l rfl rfl rfl ?_
            refine l_l rfl rfl rfl ?_
            refine l_l rfl rfl rfl ?_
            refine l_l rfl rfl rfl ?_
            refine l_nil ?_
            refine c_seq ?_
            refine c_region ?_
            refine l_l rfl rfl rfl ?_
            refine l_l rfl rfl rfl ?_
            refine l_l rfl rfl rfl ?_
            refine l_l rfl rfl rfl ?_
            refine l_x (x_val call_84 rfl (fun w hw => dot_fn _ _ l hl _ _ _ w (hB.later0 hw))) rfl rfl ?_
            rintro _ _ ⟨rfl, rfl⟩
            refine l_l rfl rfl rfl ?_
            refine l_nil ?_
            refine c_ret ?_
            exact l_end0 (fun _ _ => rets_v rfl) ⟨rfl, congrArg _ (psdot_law hy hx ht hh (by simp at *; omega) (by simp at *; omega) (bu := true) (bt := false) (bh := true) h3 h4 h6)⟩
          · refine c_skip ?_
            refine c_seq ?_
            refine c_region ?_
            refine l_l rfl rfl rfl ?_
            refine l_l rfl rfl rfl ?_
            refine l_l rfl rfl rfl ?_
            refine l_l rfl rfl rfl ?_
            refine l_x (x_val call_84 rfl (fun w hw => dot_fn _ _ l hl _ _ _ w (hB.later0 hw))) rfl rfl ?_
            rintro _ _ ⟨rfl, rfl⟩
            refine l_l rfl rfl rfl ?_
            refine l_nil ?_
            refine c_ret ?_
            exact l_end0 (fun _ _ => rets_v rfl) ⟨rfl, congrArg _ (psdot_law hy hx ht hh (by simp at *; omega) (by simp at *; omega) (bu := true) (bt := false) (bh := false) h3 h4 h6)⟩
      · refine c_skip ?_
        refine c_seq ?_
        refine c_seq ?_
        refine c_region ?_
        refine l_l (light_fa rfl rfl) rfl rfl ?_
        refine l_x (x_load rfl rfl (at_own (by repeat (first | exact .head _ | refine .tail _ ?_ | refine List.mem_append_right _ ?_)) (by rfl))) rfl rfl ?_
        rintro _ _ ⟨rfl, rfl⟩
        refine l_l rfl rfl rfl ?_
        refine l_l rfl rfl rfl ?_
        refine l_nil ?_
        refine c_cond rfl (fun h7 => ?_) (fun h7 => ?_)
        · refine c_region ?_
          refine l_l rfl rfl rfl ?_
          refine l_l rfl rfl rfl ?_
          refine l_l rfl rfl rfl ?_
          refine l_nil ?_
          refine c_seq ?_
          refine c_region ?_
          refine l_l (light_fa rfl rfl) rfl rfl ?_
          refine l_x (x_load rfl rfl (at_own (by repeat (first | exact .head _ | refine .tail _ ?_ | refine List.mem_append_right _ ?_)) (by rfl))) rfl rfl ?_
          rintro _ _ ⟨rfl, rfl⟩
          refine l_l rfl rfl rfl ?_
          refine l_nil ?_
          refine c_seq ?_
          refine c_seq ?_
          refine c_region ?_
          refine l_l rfl rfl rfl ?_
          refine l_l rfl rfl rfl ?_
          refine l_nil ?_
          refine c_cond rfl (fun h8 => ?_) (fun h8 => ?_)
          · refine c_region ?_
            refine l_l rfl rfl rfl ?_
            refine l_l rfl rfl rfl ?_
            refine l_l rfl rfl rfl ?_
            refine l_l rfl rfl rfl ?_
            refine l_l rfl rfl rfl ?_
            refine l_l rfl rfl rfl ?_
            refine l_nil ?_
            refine c_seq ?_
            refine c_region ?_
            refine l_l rfl rfl rfl ?_
            refine l_l rfl rfl rfl ?_
            refine l_l rfl rfl rfl ?_
            refine l_l rfl rfl rfl ?_
            refine l_x (x_val call_84 rfl (fun w hw => dot_fn _ _ l hl _ _ _ w (hB.later0 hw))) rfl rfl ?_
            rintro _ _ ⟨rfl, rfl⟩
            refine l_l rfl rfl rfl ?_
            refine l_nil ?_
            refine c_ret ?_
            exact l_end0 (fun _ _ => rets_v rfl) ⟨rfl, congrArg _ (psdot_law hy hx ht hh (by simp at *; omega) (by simp at *; omega) (bu := false) (bt := true) (bh := true) h3 h7 h8)⟩
          · refine c_skip ?_
            refine c_seq ?_
            refine c_region ?_
            refine l_l rfl rfl rfl ?_
            refine l_l rfl rfl rfl ?_
            refine l_l rfl rfl rfl ?_
            refine l_l rfl rfl rfl ?_
            refine l_x (x_val call_84 rfl (fun w hw => dot_fn _ _ l hl _ _ _ w (hB.later0 hw))) rfl rfl ?_
            rintro _ _ ⟨rfl, rfl⟩
            refine l_l rfl rfl rfl ?_
            refine l_nil ?_
            refine c_ret ?_
            exact l_end0 (fun _ _ => rets_v rfl) ⟨rfl, congrArg _ (psdot_law hy hx ht hh (by simp at *; omega) (by simp at *; omega) (bu := false) (bt := true) (bh := false) h3 h7 h8)⟩
        · refine c_skip ?_
          refine c_seq ?_
          refine c_region ?_
          refine l_l (light_fa rfl rfl) rfl rfl ?_
          refine l_x (x_load rfl rfl (at_own (by repeat (first | exact .head _ | refine .tail _ ?_ | refine List.mem_append_right _ ?_)) (by rfl))) rfl rfl ?_
          rintro _ _ ⟨rfl, rfl⟩
          refine l_l rfl rfl rfl ?_
          refine l_nil ?_
          refine c_seq ?_
          refine c_seq ?_
          refine c_region ?_
          refine l_l rfl rfl rfl ?_
          refine l_l rfl rfl rfl ?_
          refine l_nil ?_
          refine c_cond rfl (fun h9 => ?_) (fun h9 => ?_)
          · refine c_region ?_
            refine l_l rfl rfl rfl ?_
            refine l_l rfl rfl rfl ?_
            refine l_l rfl rfl rfl ?_
            refine l_l rfl rfl rfl ?_
            refine l_l rfl rfl rfl ?_
            refine l_l rfl rfl rfl ?_
            refine l_nil ?_
            refine c_seq ?_
            refine c_region ?_
            refine l_l rfl rfl rfl ?_
            refine l_l rfl rfl rfl ?_
            refine l_l rfl rfl rfl ?_
            refine l_l rfl rfl rfl ?_
            refine l_x (x_val call_84 rfl (fun w hw => dot_fn _ _ l hl _ _ _ w (hB.later0 hw))) rfl rfl ?_
            rintro _ _ ⟨rfl, rfl⟩
            refine l_l rfl rfl rfl ?_
            refine l_nil ?_
            refine c_ret ?_
            exact l_end0 (fun _ _ => rets_v rfl) ⟨rfl, congrArg _ (psdot_law hy hx ht hh (by simp at *; omega) (by simp at *; omega) (bu := false) (bt := false) (bh := true) h3 h7 h9)⟩
          · refine c_skip ?_
            refine c_seq ?_
            refine c_region ?_
            refine l_l rfl rfl rfl ?_
            refine l_l rfl rfl rfl ?_
            refine l_l rfl rfl rfl ?_
            refine l_l rfl rfl rfl ?_
            refine l_x (x_val call_84 rfl (fun w hw => dot_fn _ _ l hl _ _ _ w (hB.later0 hw))) rfl rfl ?_
            rintro _ _ ⟨rfl, rfl⟩
            refine l_l rfl rfl rfl ?_
            refine l_nil ?_
            refine c_ret ?_
            exact l_end0 (fun _ _ => rets_v rfl) ⟨rfl, congrArg _ (psdot_law hy hx ht hh (by simp at *; omega) (by simp at *; omega) (bu := false) (bt := false) (bh := false) h3 h7 h9)⟩


theorem oat_fn (a : Option Addr) (cap : Nat) (l : List Int) (n : Int) (k : Nat) (hn : 0 ≤ n ∧ n < 40) (hk : k < 4) (hl : Byts l) (w : World) (hB : Ns w .u8 a l) :
    Does Try.prog 68 [.slice a l.length cap, .int .i64 n, .int .i64 k] w [] (fun v H => H = [] ∧ v = .int .i64 (oB l n k)) := by
  refine does_of Try.func68 rfl rfl rfl (St.refl w) ?_
  refine c_seq ?_
  refine c_region ?_
  refine l_l rfl rfl rfl ?_
  refine l_nil ?_
  refine c_seq ?_
  refine c_region ?_
  refine l_l rfl rfl rfl ?_
  refine l_l rfl rfl rfl ?_
  refine l_l rfl rfl rfl ?_
  refine l_l rfl rfl rfl ?_
  rw [oat_law hn hk]
  refine l_l rfl rfl rfl ?_
  refine l_nil ?_
  refine c_seq ?_
  refine c_seq ?_
  refine c_region ?_
  refine l_l rfl rfl rfl ?_
  refine l_l rfl rfl rfl ?_
  refine l_l (by first | exact light_len rfl rfl | exact light_lens rfl rfl | rfl) rfl rfl ?_
  refine l_l rfl rfl rfl ?_
  refine l_nil ?_
  refine c_cond rfl (fun h1 => ?_) (fun h1 => ?_)
  · refine c_seq ?_
    refine c_region ?_
    refine l_l rfl rfl rfl ?_
    refine l_nil ?_
    refine c_ret ?_
    exact l_end0 (fun _ _ => rets_v rfl) ⟨rfl, congrArg _ (oat_none' hn hk (by simp at *; omega))⟩
  · refine c_skip ?_
    refine c_seq ?_
    obtain ⟨b, off, rfl, hr⟩ := hB.row (i := (4 * n + k).toNat) (by simp at *; omega)
    refine c_region ?_
    refine l_l rfl rfl rfl ?_
    refine l_l rfl rfl rfl ?_
    refine l_l (idx_slice1 (4 * n + k).toNat rfl rfl rfl (by show 4 * n + (k : Int) = _; omega) (by simp at *; omega)) rfl rfl ?_
    refine l_x (x_load rfl rfl (at_old (hr.int (by simp at *; omega)) (by simp))) rfl rfl ?_
    rintro _ _ ⟨rfl, rfl⟩
    refine l_l rfl rfl rfl ?_
    refine l_l rfl rfl rfl ?_
    refine l_nil ?_
    refine c_ret ?_
    exact l_end0 (fun _ _ => rets_v rfl) ⟨rfl, congrArg _ (oat_some' hl hn hk)⟩

theorem rspdot_fn (c cb cf cs : Int) (hc : 0 ≤ c ∧ c < 256) (a a2 : Option Addr) (cap cap2 : Nat) (l oam : List Int) (hl : Byts l) (ho : Byts oam) (n x line : Int)
    (w : World) (hB : Ns w .u8 a l) (hO : Ns w .u8 a2 oam) :
    Does Try.prog 69 [.agg #[.int .u8 c, .int .u8 cb, .int .u8 cf, .int .u8 cs], .slice a l.length cap, .slice a2 oam.length cap2, .int .i64 n, .int .i64 x, .int .i64 line] w [] (fun v H => H = [] ∧ v = .tuple #[.int .u8 (spDot l oam c n x line), .bool (spDot l oam c n x line != 0)]) := by
  refine does_of Try.func69 rfl rfl rfl (St.refl w) ?_
  refine c_seq ?_
  refine c_region ?_
  refine l_x (x_box rfl rfl) rfl rfl ?_
  rintro _ _ ⟨b6, rfl, rfl⟩
  refine l_l rfl rfl rfl ?_
  refine l_l rfl rfl rfl ?_
  refine l_nil ?_
  refine c_seq ?_
  refine c_seq ?_
  refine c_region ?_
  refine l_l rfl rfl rfl ?_
  refine l_l rfl rfl rfl ?_
  refine l_b rfl rfl rfl (fun h1 => ?_) (fun h1 => ?_)
  · refine l_p rfl rfl ?_
    refine l_p rfl rfl ?_
    refine l_l rfl rfl rfl ?_
    refine l_l rfl rfl rfl ?_
    refine l_p rfl rfl ?_
    refine l_p rfl rfl ?_
    refine l_l rfl rfl rfl ?_
    refine l_l rfl rfl rfl ?_
    refine l_p rfl rfl ?_
    refine l_p rfl rfl ?_
    refine l_l rfl rfl rfl ?_
    refine l_l rfl rfl rfl ?_
    refine l_p rfl rfl ?_
    refine l_p rfl rfl ?_
    refine l_l rfl rfl rfl ?_
    refine l_l rfl rfl rfl ?_
    refine l_p rfl rfl ?_
    refine l_p rfl rfl ?_
    refine l_l rfl rfl rfl ?_
    refine l_nil ?_
    refine c_true rfl ?_
    refine c_seq ?_
    refine c_region ?_
    refine l_l rfl rfl rfl ?_
    refine l_l rfl rfl rfl ?_
    refine l_nil ?_
    refine c_ret ?_
    exact l_end0 (fun _ _ => rets_v2 rfl rfl) ⟨rfl, spd_far ho (by simp at *; omega)⟩
  · refine l_l rfl rfl rfl ?_
    refine l_l rfl rfl rfl ?_
    refine l_l rfl rfl rfl ?_
    refine l_b rfl rfl rfl (fun h2 => ?_) (fun h2 => ?_)
    · refine l_p rfl rfl ?_
      refine l_p rfl rfl ?_
      refine l_l rfl rfl rfl ?_
      refine l_l rfl rfl rfl ?_
      refine l_p rfl rfl ?_
      refine l_p rfl rfl ?_
      refine l_l rfl rfl rfl ?_
      refine l_l rfl rfl rfl ?_
      refine l_p rfl rfl ?_
      refine l_p rfl rfl ?_
      refine l_l rfl rfl rfl ?_
      refine l_l rfl rfl rfl ?_
      refine l_p rfl rfl ?_
      refine l_p rfl rfl ?_
      refine l_l rfl rfl rfl ?_
      refine l_nil ?_
      refine c_true rfl ?_
      refine c_seq ?_
      refine c_region ?_
      refine l_l rfl rfl rfl ?_
      refine l_l rfl rfl rfl ?_
      refine l_nil ?_
      refine c_ret ?_
      exact l_end0 (fun _ _ => rets_v2 rfl rfl) ⟨rfl, spd_far ho (by simp at *; omega)⟩
    · refine l_l rfl rfl rfl ?_
      refine l_l rfl rfl rfl ?_
      refine l_l rfl rfl rfl ?_
      refine l_b rfl rfl rfl (fun h3 => ?_) (fun h3 => ?_)
      · refine l_p rfl rfl ?_
        refine l_p rfl rfl ?_
        refine l_l rfl rfl rfl ?_
        refine l_l rfl rfl rfl ?_
        refine l_p rfl rfl ?_
        refine l_p rfl rfl ?_
        refine l_l rfl rfl rfl ?_
        refine l_l rfl rfl rfl ?_
        refine l_p rfl rfl ?_
        refine l_p rfl rfl ?_
        refine l_l rfl rfl rfl ?_
        refine l_nil ?_
        refine c_true rfl ?_
        refine c_seq ?_
        refine c_region ?_
        refine l_l rfl rfl rfl ?_
        refine l_l rfl rfl rfl ?_
        refine l_nil ?_
        refine c_ret ?_
        exact l_end0 (fun _ _ => rets_v2 rfl rfl) ⟨rfl, spd_far ho (by simp at *; omega)⟩
      · refine l_l rfl rfl rfl ?_
        refine l_l rfl rfl rfl ?_
        refine l_l rfl rfl rfl ?_
        refine l_b rfl rfl rfl (fun h4 => ?_) (fun h4 => ?_)
        · refine l_p rfl rfl ?_
          refine l_p rfl rfl ?_
          refine l_l rfl rfl rfl ?_
          refine l_l rfl rfl rfl ?_
          refine l_p rfl rfl ?_
          refine l_p rfl rfl ?_
          refine l_l rfl rfl rfl ?_
          refine l_nil ?_
          refine c_true rfl ?_
          refine c_seq ?_
          refine c_region ?_
          refine l_l rfl rfl rfl ?_
          refine l_l rfl rfl rfl ?_
          refine l_nil ?_
          refine c_ret ?_
          exact l_end0 (fun _ _ => rets_v2 rfl rfl) ⟨rfl, spd_far ho (by simp at *; omega)⟩
        · refine l_l rfl rfl rfl ?_
          refine l_l rfl rfl rfl ?_
          refine l_l rfl rfl rfl ?_
          refine l_b rfl rfl rfl (fun h5 => ?_) (fun h5 => ?_)
          · refine l_p rfl rfl ?_
            refine l_p rfl rfl ?_
            refine l_l rfl rfl rfl ?_
            refine l_nil ?_
            refine c_true rfl ?_
            refine c_seq ?_
            refine c_region ?_
            refine l_l rfl rfl rfl ?_
            refine l_l rfl rfl rfl ?_
            refine l_nil ?_
            refine c_ret ?_
            exact l_end0 (fun _ _ => rets_v2 rfl rfl) ⟨rfl, spd_far ho (by simp at *; omega)⟩
          · refine l_l rfl rfl rfl ?_
            refine l_l rfl rfl rfl ?_
            refine l_l rfl rfl rfl ?_
            refine l_nil ?_
            refine c_cond rfl (fun h6 => ?_) (fun h6 => ?_)
            · refine c_seq ?_
              refine c_region ?_
              refine l_l rfl rfl rfl ?_
              refine l_l rfl rfl rfl ?_
              refine l_nil ?_
              refine c_ret ?_
              exact l_end0 (fun _ _ => rets_v2 rfl rfl) ⟨rfl, spd_far ho (by simp at *; omega)⟩
            · refine c_skip ?_
              refine c_seq ?_
              refine c_region ?_
              refine l_l rfl rfl rfl ?_
              refine l_l rfl rfl rfl ?_
              refine l_l rfl rfl rfl ?_
              refine l_x (x_val call_68 rfl (fun w hw => oat_fn _ _ oam n 0 (by simp at *; omega) (by decide) ho w (hO.later0 hw))) rfl rfl ?_
              rintro _ _ ⟨rfl, rfl⟩
              refine l_l rfl rfl rfl ?_
              refine l_l rfl rfl rfl ?_
              refine l_l rfl rfl rfl ?_
              refine l_l rfl rfl rfl ?_
              refine l_l rfl rfl rfl ?_
              refine l_x (x_val call_68 rfl (fun w hw => oat_fn _ _ oam n 1 (by simp at *; omega) (by decide) ho w (hO.later0 hw))) rfl rfl ?_
              rintro _ _ ⟨rfl, rfl⟩
              refine l_l rfl rfl rfl ?_
              refine l_l rfl rfl rfl ?_
              refine l_l rfl rfl rfl ?_
              refine l_l rfl rfl rfl ?_
              refine l_nil ?_
              refine c_seq ?_
              refine c_seq ?_
              refine c_region ?_
              refine l_l rfl rfl rfl ?_
              refine l_l rfl rfl rfl ?_
              refine l_b rfl rfl rfl (fun h7 => ?_) (fun h7 => ?_)
              · refine l_p rfl rfl ?_
                refine l_p rfl rfl ?_
                refine l_p rfl rfl ?_
                refine l_p rfl rfl ?_
                refine l_l rfl rfl rfl ?_
                refine l_l rfl rfl rfl ?_
                refine l_p rfl rfl ?_
                refine l_p rfl rfl ?_
                refine l_l rfl rfl rfl ?_
                refine l_l rfl rfl rfl ?_
                refine l_p rfl rfl ?_
                refine l_p rfl rfl ?_
                refine l_l rfl rfl rfl ?_
                refine l_nil ?_
                refine c_true rfl ?_
                refine c_seq ?_
                refine c_region ?_
                refine l_l rfl rfl rfl ?_
                refine l_l rfl rfl rfl ?_
                refine l_nil ?_
                refine c_ret ?_
                exact l_end0 (fun _ _ => rets_v2 rfl rfl) ⟨rfl, spd_zero ho (by simp at *; omega) (by simp at *; omega)⟩
              · refine l_l rfl rfl rfl ?_
                refine l_x (x_loadA rfl rfl rfl (by first | exact row_own (by repeat (first | exact .head _ | refine .tail _ ?_ | refine List.mem_append_right _ ?_)) | exact row_own_at (by repeat (first | exact .head _ | refine .tail _ ?_ | refine List.mem_append_right _ ?_)) _ 4 rfl)) rfl rfl ?_
                rintro _ _ ⟨rfl, rfl⟩
                refine l_x (x_val call_79 rfl (fun w hw => rheight_fn c cb cf cs hc w)) rfl rfl ?_
                rintro _ _ ⟨rfl, rfl⟩
                refine l_l rfl rfl rfl ?_
                refine l_l rfl rfl rfl ?_
                refine l_b rfl rfl rfl (fun h8 => ?_) (fun h8 => ?_)
                · refine l_p rfl rfl ?_
                  refine l_p rfl rfl ?_
                  refine l_l rfl rfl rfl ?_
                  refine l_l rfl rfl rfl ?_
                  refine l_p rfl rfl ?_
                  refine l_p rfl rfl ?_
                  refine l_l rfl rfl rfl ?_
                  refine l_nil ?_
                  refine c_true rfl ?_
                  refine c_seq ?_
                  refine c_region ?_
                  refine l_l rfl rfl rfl ?_
                  refine l_l rfl rfl rfl ?_
                  refine l_nil ?_
                  refine c_ret ?_
                  exact l_end0 (fun _ _ => rets_v2 rfl rfl) ⟨rfl, spd_zero ho (by simp at *; omega) (by simp at *; omega)⟩
                · refine l_l rfl rfl rfl ?_
                  refine l_l rfl rfl rfl ?_
                  refine l_l rfl rfl rfl ?_
                  refine l_b rfl rfl rfl (fun h9 => ?_) (fun h9 => ?_)
                  · refine l_p rfl rfl ?_
                    refine l_p rfl rfl ?_
                    refine l_l rfl rfl rfl ?_
                    refine l_nil ?_
                    refine c_true rfl ?_
                    refine c_seq ?_
                    refine c_region ?_
                    refine l_l rfl rfl rfl ?_
                    refine l_l rfl rfl rfl ?_
                    refine l_nil ?_
                    refine c_ret ?_
                    exact l_end0 (fun _ _ => rets_v2 rfl rfl) ⟨rfl, spd_zero ho (by simp at *; omega) (by simp at *; omega)⟩
                  · refine l_l rfl rfl rfl ?_
                    refine l_l rfl rfl rfl ?_
                    refine l_l rfl rfl rfl ?_
                    refine l_nil ?_
                    refine c_cond rfl (fun h10 => ?_) (fun h10 => ?_)
                    · refine c_seq ?_
                      refine c_region ?_
                      refine l_l rfl rfl rfl ?_
                      refine l_l rfl rfl rfl ?_
                      refine l_nil ?_
                      refine c_ret ?_
                      exact l_end0 (fun _ _ => rets_v2 rfl rfl) ⟨rfl, spd_zero ho (by simp at *; omega) (by simp at *; omega)⟩
                    · refine c_skip ?_
                      refine c_seq ?_
                      refine c_region ?_
                      refine l_l rfl rfl rfl ?_
                      refine l_l rfl rfl rfl ?_
                      refine l_x (x_val call_68 rfl (fun w hw => oat_fn _ _ oam n 3 (by simp at *; omega) (by decide) ho w (hO.later0 hw))) rfl rfl ?_
                      rintro _ _ ⟨rfl, rfl⟩
                      refine l_l rfl rfl rfl ?_
                      refine l_l rfl rfl rfl ?_
                      refine l_nil ?_
                      refine c_seq ?_
                      refine c_seq ?_
                      refine c_region ?_
                      refine l_l rfl rfl rfl ?_
                      refine l_x (x_val call_67 rfl (fun w hw => bit_fn _ _ (byte8 _) ⟨by decide, by decide⟩ w)) rfl rfl ?_
                      rintro _ _ ⟨rfl, rfl⟩
                      refine l_l rfl rfl rfl ?_
                      refine l_nil ?_
                      refine c_cond rfl (fun h11 => ?_) (fun h11 => ?_)
                      · refine c_region ?_
                        refine l_x (x_loadA rfl rfl rfl (by first | exact row_own (by repeat (first | exact .head _ | refine .tail _ ?_ | refine List.mem_append_right _ ?_)) | exact row_own_at (by repeat (first | exact .head _ | refine .tail _ ?_ | refine List.mem_append_right _ ?_)) _ 4 rfl)) rfl rfl ?_
                        rintro _ _ ⟨rfl, rfl⟩
                        refine l_x (x_val call_79 rfl (fun w hw => rheight_fn c cb cf cs hc w)) rfl rfl ?_
                        rintro _ _ ⟨rfl, rfl⟩
                        refine l_l rfl rfl rfl ?_
                        refine l_l rfl rfl rfl ?_
                        refine l_l rfl rfl rfl ?_
                        refine l_l rfl rfl rfl ?_
                        refine l_nil ?_
                        refine c_seq ?_
                        refine c_seq ?_
                        refine c_region ?_
                        refine l_l rfl rfl rfl ?_
                        refine l_x (x_val call_67 rfl (fun w hw => bit_fn _ _ (byte8 _) ⟨by decide, by decide⟩ w)) rfl rfl ?_
                        rintro _ _ ⟨rfl, rfl⟩
                        refine l_l rfl rfl rfl ?_
                        refine l_nil ?_
                        refine c_cond rfl (fun h12 => ?_) (fun h12 => ?_)
                        · refine c_region ?_
                          refine l_l rfl rfl rfl ?_
                          refine l_l rfl rfl rfl ?_
                          refine l_l rfl rfl rfl ?_
                          refine l_nil ?_
                          refine c_seq ?_
                          refine c_region ?_
                          refine l_l rfl rfl rfl ?_
                          refine l_l rfl rfl rfl ?_
                          refine l_x (x_val call_68 rfl (fun w hw => oat_fn _ _ oam n 2 (by simp at *; omega) (by decide) ho w (hO.later0 hw))) rfl rfl ?_
                          rintro _ _ ⟨rfl, rfl⟩
                          refine l_l rfl rfl rfl ?_
                          refine l_nil ?_
                          refine c_seq ?_
                          refine c_seq ?_
                          refine c_region ?_
                          refine l_x (x_loadA rfl rfl rfl (by first | exact row_own (by repeat (first | exact .head _ | refine .tail _ ?_ | refine List.mem_append_right _ ?_)) | exact row_own_at (by repeat (first | exact .head _ | refine .tail _ ?_ | refine List.mem_append_right _ ?_)) _ 4 rfl)) rfl rfl ?_
                          rintro _ _ ⟨rfl, rfl⟩
                          refine l_x (x_val call_79 rfl (fun w hw => rheight_fn c cb cf cs hc w)) rfl rfl ?_
                          rintro _ _ ⟨rfl, rfl⟩
                          refine l_l rfl rfl rfl ?_
                          refine l_nil ?_
                          refine c_cond rfl (fun h13 => ?_) (fun h13 => ?_)
                          · refine c_region ?_
                            refine l_l rfl rfl rfl ?_
                            refine l_l rfl rfl rfl ?_
                            refine l_l rfl rfl rfl ?_
                            refine l_l rfl rfl rfl ?_
                            refine l_nil ?_
                            refine c_seq ?_
                            refine c_seq ?_
                            refine c_region ?_
                            refine l_l rfl rfl rfl ?_
                            refine l_l rfl rfl rfl ?_
                            refine l_nil ?_
                            refine c_cond rfl (fun h14 => ?_) (fun h14 => ?_)
                            · refine c_seq ?_
                              refine c_region ?_
                              refine l_l rfl rfl rfl ?_
                              refine l_l rfl rfl rfl ?_
                              refine l_l rfl rfl rfl ?_
                              refine l_nil ?_
                              refine c_region ?_
                              refine l_l rfl rfl rfl ?_
                              refine l_l rfl rfl rfl ?_
                              refine l_l rfl rfl rfl ?_
                              refine l_nil ?_
                              refine c_seq ?_
                              refine c_region ?_
                              refine l_l rfl rfl rfl ?_
                              refine l_l rfl rfl rfl ?_
                              refine l_l rfl rfl rfl ?_
                              refine l_l rfl rfl rfl ?_
                              refine l_x (x_val call_80 rfl (fun w hw => rdot_fn _ _ l hl _ _ _ w (hB.later0 hw))) rfl rfl ?_
                              rintro _ _ ⟨rfl, rfl⟩
                              refine l_l rfl rfl rfl ?_
                              refine l_nil ?_
                              refine c_seq ?_
                              refine c_region ?_
                              refine l_l rfl rfl rfl ?_
                              refine l_l rfl rfl rfl ?_
                              refine l_l rfl rfl rfl ?_
                              refine l_l rfl rfl rfl ?_
                              refine l_l rfl rfl rfl ?_
                              refine l_nil ?_
                              refine c_ret ?_
                              exact l_end0 (fun _ _ => rets_v2 rfl rfl) ⟨rfl, spd_law (rsdot_law ho (by simp at *; omega) (by simp at *; omega) (by simp at *; omega) (by simp at *; omega) (by simp at *; omega) (bu := true) (bt := true) (bh := true) (b7 := true) h11 h12 h13 rfl rfl h14)⟩
                            · refine c_skip ?_
                              refine c_seq ?_
                              refine c_region ?_
                              refine l_l rfl rfl rfl ?_
                              refine l_l rfl rfl rfl ?_
                              refine l_l rfl rfl rfl ?_
                              refine l_l rfl rfl rfl ?_
                              refine l_x (x_val call_80 rfl (fun w hw => rdot_fn _ _ l hl _ _ _ w (hB.later0 hw))) rfl rfl ?_
                              rintro _ _ ⟨rfl, rfl⟩
                              refine l_l rfl rfl rfl ?_
                              refine l_nil ?_
                              refine c_seq ?_
                              refine c_region ?_
                              refine l_l rfl rfl rfl ?_
                              refine l_l rfl rfl rfl ?_
                              refine l_l rfl rfl rfl ?_
                              refine l_l rfl rfl rfl ?_
                              refine l_l rfl rfl rfl ?_
                              refine l_nil ?_
                              refine c_ret ?_
                              exact l_end0 (fun _ _ => rets_v2 rfl rfl) ⟨rfl, spd_law (rsdot_law ho (by simp at *; omega) (by simp at *; omega) (by simp at *; omega) (by simp at *; omega) (by simp at *; omega) (bu := true) (bt := true) (bh := true) (b7 := false) h11 h12 h13 rfl rfl h14)⟩
                          · refine c_skip ?_
                            refine c_seq ?_
                            refine c_seq ?_
                            refine c_region ?_
                            refine l_l rfl rfl rfl ?_
                            refine l_l rfl rfl rfl ?_
                            refine l_nil ?_
                            refine c_cond rfl (fun h15 => ?_) (fun h15 => ?_)
                            · refine c_seq ?_
                              refine c_region ?_
                              refine l_l rfl rfl rfl ?_
                              refine l_l rfl rfl rfl ?_
                              refine l_l rfl rfl rfl ?_
                              refine l_nil ?_
                              refine c_region ?_
                              refine l_l rfl rfl rfl ?_
                              refine l_l rfl rfl rfl ?_
                              refine l_l rfl rfl rfl ?_
                              refine l_nil ?_
                              refine c_seq ?_
                              refine c_region ?_
                              refine l_l rfl rfl rfl ?_
                              refine l_l rfl rfl rfl ?_
                              refine l_l rfl rfl rfl ?_
                              refine l_l rfl rfl rfl ?_
                              refine l_x (x_val call_80 rfl (fun w hw => rdot_fn _ _ l hl _ _ _ w (hB.later0 hw))) rfl rfl ?_
                              rintro _ _ ⟨rfl, rfl⟩
                              refine l_l rfl rfl rfl ?_
                              refine l_nil ?_
                              refine c_seq ?_
                              refine c_region ?_
                              refine l_l rfl rfl rfl ?_
                              refine l_l rfl rfl rfl ?_
                              refine l_l rfl rfl rfl ?_
                              refine l_l rfl rfl rfl ?_
                              refine l_l rfl rfl rfl ?_
                              refine l_nil ?_
                              refine c_ret ?_
                              exact l_end0 (fun _ _ => rets_v2 rfl rfl) ⟨rfl, spd_law (rsdot_law ho (by simp at *; omega) (by simp at *; omega) (by simp at *; omega) (by simp at *; omega) (by simp at *; omega) (bu := true) (bt := true) (bh := false) (b7 := true) h11 h12 h13 rfl rfl h15)⟩
                            · refine c_skip ?_
                              refine c_seq ?_
                              refine c_region ?_
                              refine l_l rfl rfl rfl ?_
                              refine l_l rfl rfl rfl ?_
                              refine l_l rfl rfl rfl ?_
                              refine l_l rfl rfl rfl ?_
                              refine l_x (x_val call_80 rfl (fun w hw => rdot_fn _ _ l hl _ _ _ w (hB.later0 hw))) rfl rfl ?_
                              rintro _ _ ⟨rfl, rfl⟩
                              refine l_l rfl rfl rfl ?_
                              refine l_nil ?_
                              refine c_seq ?_
                              refine c_region ?_
                              refine l_l rfl rfl rfl ?_
                              refine l_l rfl rfl rfl ?_
                              refine l_l rfl rfl rfl ?_
                              refine l_l rfl rfl rfl ?_
                              refine l_l rfl rfl rfl ?_
                              refine l_nil ?_
                              refine c_ret ?_
                              exact l_end0 (fun _ _ => rets_v2 rfl rfl) ⟨rfl, spd_law (rsdot_law ho (by simp at *; omega) (by simp at *; omega) (by simp at *; omega) (by simp at *; omega) (by simp at *; omega) (bu := true) (bt := true) (bh := false) (b7 := false) h11 h12 h13 rfl rfl h15)⟩
                        · refine c_skip ?_
                          refine c_seq ?_
                          refine c_region ?_
                          refine l_l rfl rfl rfl ?_
                          refine l_l rfl rfl rfl ?_
                          refine l_x (x_val call_68 rfl (fun w hw => oat_fn _ _ oam n 2 (by simp at *; omega) (by decide) ho w (hO.later0 hw))) rfl rfl ?_
                          rintro _ _ ⟨rfl, rfl⟩
                          refine l_l rfl rfl rfl ?_
                          refine l_nil ?_
                          refine c_seq ?_
                          refine c_seq ?_
                          refine c_region ?_
                          refine l_x (x_loadA rfl rfl rfl (by first | exact row_own (by repeat (first | exact .head _ | refine .tail _ ?_ | refine List.mem_append_right _ ?_)) | exact row_own_at (by repeat (first | exact .head _ | refine .tail _ ?_ | refine List.mem_append_right _ ?_)) _ 4 rfl)) rfl rfl ?_
                          rintro _ _ ⟨rfl, rfl⟩
                          refine l_x (x_val call_79 rfl (fun w hw => rheight_fn c cb cf cs hc w)) rfl rfl ?_
                          rintro _ _ ⟨rfl, rfl⟩
                          refine l_l rfl rfl rfl ?_
                          refine l_nil ?_
                          refine c_cond rfl (fun h16 => ?_) (fun h16 => ?_)
                          · refine c_region ?_
                            refine l_l rfl rfl rfl ?_
                            refine l_l rfl rfl rfl ?_
                            refine l_l rfl rfl rfl ?_
                            refine l_l rfl rfl rfl ?_
                            refine l_nil ?_
                            refine c_seq ?_
                            refine c_seq ?_
                            refine c_region ?_
                            refine l_l rfl rfl rfl ?_
                            refine l_l rfl rfl rfl ?_
                            refine l_nil ?_
                            refine c_cond rfl (fun h17 => ?_) (fun h17 => ?_)
                            · refine c_seq ?_
                              refine c_region ?_
                              refine l_l rfl rfl rfl ?_
                              refine l_l rfl rfl rfl ?_
                              refine l_l rfl rfl rfl ?_
                              refine l_nil ?_
                              refine c_region ?_
                              refine l_l rfl rfl rfl ?_
                              refine l_l rfl rfl rfl ?_
                              refine l_l rfl rfl rfl ?_
                              refine l_nil ?_
                              refine c_seq ?_
                              refine c_region ?_
                              refine l_l rfl rfl rfl ?_
                              refine l_l rfl rfl rfl ?_
                              refine l_l rfl rfl rfl ?_
                              refine l_l rfl rfl rfl ?_
                              refine l_x (x_val call_80 rfl (fun w hw => rdot_fn _ _ l hl _ _ _ w (hB.later0 hw))) rfl rfl ?_
                              rintro _ _ ⟨rfl, rfl⟩
                              refine l_l rfl rfl rfl ?_
                              refine l_nil ?_
                              refine c_seq ?_
                              refine c_region ?_
                              refine l_l rfl rfl rfl ?_
                              refine l_l rfl rfl rfl ?_
                              refine l_l rfl rfl rfl ?_
                              refine l_l rfl rfl rfl ?_
                              refine l_l rfl rfl rfl ?_
                              refine l_nil ?_
                              refine c_ret ?_
                              exact l_end0 (fun _ _ => rets_v2 rfl rfl) ⟨rfl, spd_law (rsdot_law ho (by simp at *; omega) (by simp at *; omega) (by simp at *; omega) (by simp at *; omega) (by simp at *; omega) (bu := true) (bt := false) (bh := true) (b7 := true) h11 h12 h16 rfl rfl h17)⟩
                            · refine c_skip ?_
                              refine c_seq ?_
                              refine c_region ?_
                              refine l_l rfl rfl rfl ?_
                              refine l_l rfl rfl rfl ?_
                              refine l_l rfl rfl rfl ?_
                              refine l_l rfl rfl rfl ?_
                              refine l_x (x_val call_80 rfl (fun w hw => rdot_fn _ _ l hl _ _ _ w (hB.later0 hw))) rfl rfl ?_
                              rintro _ _ ⟨rfl, rfl⟩
                              refine l_l rfl rfl rfl ?_
                              refine l_nil ?_
                              refine c_seq ?_
                              refine c_region ?_
                              refine l_l rfl rfl rfl ?_
                              refine l_l rfl rfl rfl ?_
                              refine l_l rfl rfl rfl ?_
                              refine l_l rfl rfl rfl ?_
                              refine l_l rfl rfl rfl ?_
                              refine l_nil ?_
                              refine c_ret ?_
                              exact l_end0 (fun _ _ => rets_v2 rfl rfl) ⟨rfl, spd_law (rsdot_law ho (by simp at *; omega) (by simp at *; omega) (by simp at *; omega) (by simp at *; omega) (by simp at *; omega) (bu := true) (bt := false) (bh := true) (b7 := false) h11 h12 h16 rfl rfl h17)⟩
                          · refine c_skip ?_
                            refine c_seq ?_
                            refine c_seq ?_
                            refine c_region ?_
                            refine l_l rfl rfl rfl ?_
                            refine l_l rfl rfl rfl ?_
                            refine l_nil ?_
                            refine c_cond rfl (fun h18 => ?_) (fun h18 => ?_)
                            · refine c_seq ?_
                              refine c_region ?_
                              refine l_l rfl rfl rfl ?_
                              refine l_l rfl rfl rfl ?_
                              refine l_l rfl rfl rfl ?_
                              refine l_nil ?_
                              refine c_region ?_
                              refine l_l rfl rfl rfl ?_
                              refine l_l rfl rfl rfl ?_
                              refine l_l rfl rfl rfl ?_
                              refine l_nil ?_
                              refine c_seq ?_
                              refine c_region ?_
                              refine l_l rfl rfl rfl ?_
                              refine l_l rfl rfl rfl ?_
                              refine l_l rfl rfl rfl ?_
                              refine l_l rfl rfl rfl ?_
                              refine l_x (x_val call_80 rfl (fun w hw => rdot_fn _ _ l hl _ _ _ w (hB.later0 hw))) rfl rfl ?_
                              rintro _ _ ⟨rfl, rfl⟩
                              refine l_l rfl rfl rfl ?_
                              refine l_nil ?_
                              refine c_seq ?_
                              refine c_region ?_
                              refine l_l rfl rfl rfl ?_
                              refine l_l rfl rfl rfl ?_
                              refine l_l rfl rfl rfl ?_
                              refine l_l rfl rfl rfl ?_
                              refine l_l rfl rfl rfl ?_
                              refine l_nil ?_
                              refine c_ret ?_
                              exact l_end0 (fun _ _ => rets_v2 rfl rfl) ⟨rfl, spd_law (rsdot_law ho (by simp at *; omega) (by simp at *; omega) (by simp at *; omega) (by simp at *; omega) (by simp at *; omega) (bu := true) (bt := false) (bh := false) (b7 := true) h11 h12 h16 rfl rfl h18)⟩
                            · refine c_skip ?_
                              refine c_seq ?_
                              refine c_region ?_
                              refine l_l rfl rfl rfl ?_
                              refine l_l rfl rfl rfl ?_
                              refine l_l rfl rfl rfl ?_
                              refine l_l rfl rfl rfl ?_
                              refine l_x (x_val call_80 rfl (fun w hw => rdot_fn _ _ l hl _ _ _ w (hB.later0 hw))) rfl rfl ?_
                              rintro _ _ ⟨rfl, rfl⟩
                              refine l_l rfl rfl rfl ?_
                              refine l_nil ?_
                              refine c_seq ?_
                              refine c_region ?_
                              refine l_l rfl rfl rfl ?_
                              refine l_l rfl rfl rfl ?_
                              refine l_l rfl rfl rfl ?_
                              refine l_l rfl rfl rfl ?_
                              refine l_l rfl rfl rfl ?_
                              refine l_nil ?_
                              refine c_ret ?_
                              exact l_end0 (fun _ _ => rets_v2 rfl rfl) ⟨rfl, spd_law (rsdot_law ho (by simp at *; omega) (by simp at *; omega) (by simp at *; omega) (by simp at *; omega) (by simp at *; omega) (bu := true) (bt := false) (bh := false) (b7 := false) h11 h12 h16 rfl rfl h18)⟩
                      · refine c_skip ?_
                        refine c_seq ?_
                        refine c_seq ?_
                        refine c_region ?_
                        refine l_l rfl rfl rfl ?_
                        refine l_x (x_val call_67 rfl (fun w hw => bit_fn _ _ (byte8 _) ⟨by decide, by decide⟩ w)) rfl rfl ?_
                        rintro _ _ ⟨rfl, rfl⟩
                        refine l_l rfl rfl rfl ?_
                        refine l_nil ?_
                        refine c_cond rfl (fun h19 => ?_) (fun h19 => ?_)
                        · refine c_region ?_
                          refine l_l rfl rfl rfl ?_
                          refine l_l rfl rfl rfl ?_
                          refine l_l rfl rfl rfl ?_
                          refine l_nil ?_
                          refine c_seq ?_
                          refine c_region ?_
                          refine l_l rfl rfl rfl ?_
                          refine l_l rfl rfl rfl ?_
                          refine l_x (x_val call_68 rfl (fun w hw => oat_fn _ _ oam n 2 (by simp at *; omega) (by decide) ho w (hO.later0 hw))) rfl rfl ?_
                          rintro _ _ ⟨rfl, rfl⟩
                          refine l_l rfl rfl rfl ?_
                          refine l_nil ?_
                          refine c_seq ?_
                          refine c_seq ?_
                          refine c_region ?_
                          refine l_x (x_loadA rfl rfl rfl (by first | exact row_own (by repeat (first | exact .head _ | refine .tail _ ?_ | refine List.mem_append_right _ ?_)) | exact row_own_at (by repeat (first | exact .head _ | refine .tail _ ?_ | refine List.mem_append_right _ ?_)) _ 4 rfl)) rfl rfl ?_
                          rintro _ _ ⟨rfl, rfl⟩
                          refine l_x (x_val call_79 rfl (fun w hw => rheight_fn c cb cf cs hc w)) rfl rfl ?_
                          rintro _ _ ⟨rfl, rfl⟩
                          refine l_l rfl rfl rfl ?_
                          refine l_nil ?_
                          refine c_cond rfl (fun h20 => ?_) (fun h20 => ?_)
                          · refine c_region ?_
                            refine l_l rfl rfl rfl ?_
                            refine l_l rfl rfl rfl ?_
                            refine l_l rfl rfl rfl ?_
                            refine l_l rfl rfl rfl ?_
                            refine l_nil ?_
                            refine c_seq ?_
                            refine c_seq ?_
                            refine c_region ?_
                            refine l_l rfl rfl rfl ?_
                            refine l_l rfl rfl rfl ?_
                            refine l_nil ?_
                            refine c_cond rfl (fun h21 => ?_) (fun h21 => ?_)
                            · refine c_seq ?_
                              refine c_region ?_
                              refine l_l rfl rfl rfl ?_
                              refine l_l rfl rfl rfl ?_
                              refine l_l rfl rfl rfl ?_
                              refine l_nil ?_
                              refine c_region ?_
                              refine l_l rfl rfl rfl ?_
                              refine l_l rfl rfl rfl ?_
                              refine l_l rfl rfl rfl ?_
                              refine l_nil ?_
                              refine c_seq ?_
                              refine c_region ?_
                              refine l_l rfl rfl rfl ?_
                              refine l_l rfl rfl rfl ?_
                              refine l_l rfl rfl rfl ?_
                              refine l_l rfl rfl rfl ?_
                              refine l_x (x_val call_80 rfl (fun w hw => rdot_fn _ _ l hl _ _ _ w (hB.later0 hw))) rfl rfl ?_
                              rintro _ _ ⟨rfl, rfl⟩
                              refine l_l rfl rfl rfl ?_
                              refine l_nil ?_
                              refine c_seq ?_
                              refine c_region ?_
                              refine l_l rfl rfl rfl ?_
                              refine l_l rfl rfl rfl ?_
                              refine l_l rfl rfl rfl ?_
                              refine l_l rfl rfl rfl ?_
                              refine l_l rfl rfl rfl ?_
                              refine l_nil ?_
                              refine c_ret ?_
                              exact l_end0 (fun _ _ => rets_v2 rfl rfl) ⟨rfl, spd_law (rsdot_law ho (by simp at *; omega) (by simp at *; omega) (by simp at *; omega) (by simp at *; omega) (by simp at *; omega) (bu := false) (bt := true) (bh := true) (b7 := true) h11 h19 h20 rfl rfl h21)⟩
                            · refine c_skip ?_
                              refine c_seq ?_
                              refine c_region ?_
                              refine l_l rfl rfl rfl ?_
                              refine l_l rfl rfl rfl ?_
                              refine l_l rfl rfl rfl ?_
                              refine l_l rfl rfl rfl ?_
                              refine l_x (x_val call_80 rfl (fun w hw => rdot_fn _ _ l hl _ _ _ w (hB.later0 hw))) rfl rfl ?_
                              rintro _ _ ⟨rfl, rfl⟩
                              refine l_l rfl rfl rfl ?_
                              refine l_nil ?_
                              refine c_seq ?_
                              refine c_region ?_
                              refine l_l rfl rfl rfl ?_
                              refine l_l rfl rfl rfl ?_
                              refine l_l rfl rfl rfl ?_
                              refine l_l rfl rfl rfl ?_
                              refine l_l rfl rfl rfl ?_
                              refine l_nil ?_
                              refine c_ret ?_
                              exact l_end0 (fun _ _ => rets_v2 rfl rfl) ⟨rfl, spd_law (rsdot_law ho (by simp at *; omega) (by simp at *; omega) (by simp at *; omega) (by simp at *; omega) (by simp at *; omega) (bu := false) (bt := true) (bh := true) (b7 := false) h11 h19 h20 rfl rfl h21)⟩
                          · refine c_skip ?_
                            refine c_seq ?_
                            refine c_seq ?_
                            refine c_region ?_
                            refine l_l rfl rfl rfl ?_
                            refine l_l rfl rfl rfl ?_
                            refine l_nil ?_
                            refine c_cond rfl (fun h22 => ?_) (fun h22 => ?_)
                            · refine c_seq ?_
                              refine c_region ?_
                              refine l_l rfl rfl rfl ?_
                              refine l_l rfl rfl rfl ?_
                              refine l_l rfl rfl rfl ?_
                              refine l_nil ?_
                              refine c_region ?_
                              refine l_l rfl rfl rfl ?_
                              refine l_l rfl rfl rfl ?_
                              refine l_l rfl rfl rfl ?_
                              refine l_nil ?_
                              refine c_seq ?_
                              refine c_region ?_
                              refine l_l rfl rfl rfl ?_
                              refine l_l rfl rfl rfl ?_
                              refine l_l rfl rfl rfl ?_
                              refine l_l rfl rfl rfl ?_
                              refine l_x (x_val call_80 rfl (fun w hw => rdot_fn _ _ l hl _ _ _ w (hB.later0 hw))) rfl rfl ?_
                              rintro _ _ ⟨rfl, rfl⟩
                              refine l_l rfl rfl rfl ?_
                              refine l_nil ?_
                              refine c_seq ?_
                              refine c_region ?_
                              refine l_l rfl rfl rfl ?_
                              refine l_l rfl rfl rfl ?_
                              refine l_l rfl rfl rfl ?_
                              refine l_l rfl rfl rfl ?_
                              refine l_l rfl rfl rfl ?_
                              refine l_nil ?_
                              refine c_ret ?_
                              exact l_end0 (fun _ _ => rets_v2 rfl rfl) ⟨rfl, spd_law (rsdot_law ho (by simp at *; omega) (by simp at *; omega) (by simp at *; omega) (by simp at *; omega) (by simp at *; omega) (bu := false) (bt := true) (bh := false) (b7 := true) h11 h19 h20 rfl rfl h22)⟩
                            · refine c_skip ?_
                              refine c_seq ?_
                              refine c_region ?_
                              refine l_l rfl rfl rfl ?_
                              refine l_l rfl rfl rfl ?_
                              refine l_l rfl rfl rfl ?_
                              refine l_l rfl rfl rfl ?_
                              refine l_x (x_val call_80 rfl (fun w hw => rdot_fn _ _ l hl _ _ _ w (hB.later0 hw))) rfl rfl ?_
                              rintro _ _ ⟨rfl, rfl⟩
                              refine l_l rfl rfl rfl ?_
                              refine l_nil ?_
                              refine c_seq ?_
                              refine c_region ?_
                              refine l_l rfl rfl rfl ?_
                              refine l_l rfl rfl rfl ?_
                              refine l_l rfl rfl rfl ?_
                              refine l_l rfl rfl rfl ?_
                              refine l_l rfl rfl rfl ?_
                              refine l_nil ?_
                              refine c_ret ?_
                              exact l_end0 (fun _ _ => rets_v2 rfl rfl) ⟨rfl, spd_law (rsdot_law ho (by simp at *; omega) (by simp at *; omega) (by simp at *; omega) (by simp at *; omega) (by simp at *; omega) (bu := false) (bt := true) (bh := false) (b7 := false) h11 h19 h20 rfl rfl h22)⟩
                        · refine c_skip ?_
                          refine c_seq ?_
                          refine c_region ?_
                          refine l_l rfl rfl rfl ?_
                          refine l_l rfl rfl rfl ?_
                          refine l_x (x_val call_68 rfl (fun w hw => oat_fn _ _ oam n 2 (by simp at *; omega) (by decide) ho w (hO.later0 hw))) rfl rfl ?_
                          rintro _ _ ⟨rfl, rfl⟩
                          refine l_l rfl rfl rfl ?_
                          refine l_nil ?_
                          refine c_seq ?_
                          refine c_seq ?_
                          refine c_region ?_
                          refine l_x (x_loadA rfl rfl rfl (by first | exact row_own (by repeat (first | exact .head _ | refine .tail _ ?_ | refine List.mem_append_right _ ?_)) | exact row_own_at (by repeat (first | exact .head _ | refine .tail _ ?_ | refine List.mem_append_right _ ?_)) _ 4 rfl)) rfl rfl ?_
                          rintro _ _ ⟨rfl, rfl⟩
                          refine l_x (x_val call_79 rfl (fun w hw => rheight_fn c cb cf cs hc w)) rfl rfl ?_
                          rintro _ _ ⟨rfl, rfl⟩
                          refine l_l rfl rfl rfl ?_
                          refine l_nil ?_
                          refine c_cond rfl (fun h23 => ?_) (fun h23 => ?_)
                          · refine c_region ?_
                            refine l_l rfl rfl rfl ?_
                            refine l_l rfl rfl rfl ?_
                            refine l_l rfl rfl rfl ?_
                            refine l_l rfl rfl rfl ?_
                            refine l_nil ?_
                            refine c_seq ?_
                            refine c_seq ?_
                            refine c_region ?_
                            refine l_l rfl rfl rfl ?_
                            refine l_l rfl rfl rfl ?_
                            refine l_nil ?_
                            refine c_cond rfl (fun h24 => ?_) (fun h24 => ?_)
                            · refine c_seq ?_
                              refine c_region ?_
                              refine l_l rfl rfl rfl ?_
                              refine l_l rfl rfl rfl ?_
                              refine l_l rfl rfl rfl ?_
                              refine l_nil ?_
                              refine c_region ?_
                              refine l_l rfl rfl rfl ?_
                              refine l_l rfl rfl rfl ?_
                              refine l_l rfl rfl rfl ?_
                              refine l_nil ?_
                              refine c_seq ?_
                              refine c_region ?_
                              refine l_l rfl rfl rfl ?_
                              refine l_l rfl rfl rfl ?_
                              refine l_l rfl rfl rfl ?_
                              refine l_l rfl rfl rfl ?_
                              refine l_x (x_val call_80 rfl (fun w hw => rdot_fn _ _ l hl _ _ _ w (hB.later0 hw))) rfl rfl ?_
                              rintro _ _ ⟨rfl, rfl⟩
                              refine l_l rfl rfl rfl ?_
                              refine l_nil ?_
                              refine c_seq ?_
                              refine c_region ?_
                              refine l_l rfl rfl rfl ?_
                              refine l_l rfl rfl rfl ?_
                              refine l_l rfl rfl rfl ?_
                              refine l_l rfl rfl rfl ?_
                              refine l_l rfl rfl rfl ?_
                              refine l_nil ?_
                              refine c_ret ?_
                              exact l_end0 (fun _ _ => rets_v2 rfl rfl) ⟨rfl, spd_law (rsdot_law ho (by simp at *; omega) (by simp at *; omega) (by simp at *; omega) (by simp at *; omega) (by simp at *; omega) (bu := false) (bt := false) (bh := true) (b7 := true) h11 h19 h23 rfl rfl h24)⟩
                            · refine c_skip ?_
                              refine c_seq ?_
                              refine c_region ?_
                              refine l_l rfl rfl rfl ?_
                              refine l_l rfl rfl rfl ?_
                              refine l_l rfl rfl rfl ?_
                              refine l_l rfl rfl rfl ?_
                              refine l_x (x_val call_80 rfl (fun w hw => rdot_fn _ _ l hl _ _ _ w (hB.later0 hw))) rfl rfl ?_
                              rintro _ _ ⟨rfl, rfl⟩
                              refine l_l rfl rfl rfl ?_
                              refine l_nil ?_
                              refine c_seq ?_
                              refine c_region ?_
                              refine l_l rfl rfl rfl ?_
                              refine l_l rfl rfl rfl ?_
                              refine l_l rfl rfl rfl ?_
                              refine l_l rfl rfl rfl ?_
                              refine l_l rfl rfl rfl ?_
                              refine l_nil ?_
                              refine c_ret ?_
                              exact l_end0 (fun _ _ => rets_v2 rfl rfl) ⟨rfl, spd_law (rsdot_law ho (by simp at *; omega) (by simp at *; omega) (by simp at *; omega) (by simp at *; omega) (by simp at *; omega) (bu := false) (bt := false) (bh := true) (b7 := false) h11 h19 h23 rfl rfl h24)⟩
                          · refine c_skip ?_
                            refine c_seq ?_
                            refine c_seq ?_
                            refine c_region ?_
                            refine l_l rfl rfl rfl ?_
                            refine l_l rfl rfl rfl ?_
                            refine l_nil ?_
                            refine c_cond rfl (fun h25 => ?_) (fun h25 => ?_)
                            · refine c_seq ?_
                              refine c_region ?_
                              refine l_l rfl rfl rfl ?_
                              refine l_l rfl rfl rfl ?_
                              refine l_l rfl rfl rfl ?_
                              refine l_nil ?_
                              refine c_region ?_
                              refine l_l rfl rfl rfl ?_
                              refine l_l rfl rfl rfl ?_
                              refine l_l rfl rfl rfl ?_
                              refine l_nil ?_
                              refine c_seq ?_
                              refine c_region ?_
                              refine l_l rfl rfl rfl ?_
                              refine l_l rfl rfl rfl ?_
                              refine l_l rfl rfl rfl ?_
                              refine l_l rfl rfl rfl ?_
                              refine l_x (x_val call_80 rfl (fun w hw => rdot_fn _ _ l hl _ _ _ w (hB.later0 hw))) rfl rfl ?_
                              rintro _ _ ⟨rfl, rfl⟩
                              refine l_l rfl rfl rfl ?_
                              refine l_nil ?_
                              refine c_seq ?_
                              refine c_region ?_
                              refine l_l rfl rfl rfl ?_
                              refine l_l rfl rfl rfl ?_
                              refine l_l rfl rfl rfl ?_
                              refine l_l rfl rfl rfl ?_
                              refine l_l rfl rfl rfl ?_
                              refine l_nil ?_
                              refine c_ret ?_
                              exact l_end0 (fun _ _ => rets_v2 rfl rfl) ⟨rfl, spd_law (rsdot_law ho (by simp at *; omega) (by simp at *; omega) (by simp at *; omega) (by simp at *; omega) (by simp at *; omega) (bu := false) (bt := false) (bh := false) (b7 := true) h11 h19 h23 rfl rfl h25)⟩
                            · refine c_skip ?_
                              refine c_seq ?_
                              refine c_region ?_
                              refine l_l rfl rfl rfl ?_
                              refine l_l rfl rfl rfl ?_
                              refine l_l rfl rfl rfl ?_
                              refine l_l rfl rfl rfl ?_
                              refine l_x (x_val call_80 rfl (fun w hw => rdot_fn _ _ l hl _ _ _ w (hB.later0 hw))) rfl rfl ?_
                              rintro _ _ ⟨rfl, rfl⟩
                              refine l_l rfl rfl rfl ?_
                              refine l_nil ?_
                              refine c_seq ?_
                              refine c_region ?_
                              refine l_l rfl rfl rfl ?_
                              refine l_l rfl rfl rfl ?_
                              refine l_l rfl rfl rfl ?_
                              refine l_l rfl rfl rfl ?_
                              refine l_l rfl rfl rfl ?_
                              refine l_nil ?_
                              refine c_ret ?_
                              exact l_end0 (fun _ _ => rets_v2 rfl rfl) ⟨rfl, spd_law (rsdot_law ho (by simp at *; omega) (by simp at *; omega) (by simp at *; omega) (by simp at *; omega) (by simp at *; omega) (bu := false) (bt := false) (bh := false) (b7 := false) h11 h19 h23 rfl rfl h25)⟩

end Go.Proofs.Ytjceoaomkbabmaa
